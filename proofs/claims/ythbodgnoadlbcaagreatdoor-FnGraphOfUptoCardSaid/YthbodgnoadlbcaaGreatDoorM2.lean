/- Several texts in one. -/
import Derived.Test.YthbodgnoadlbcaaGreatDoorG4
import Derived.Test.YthbodgnoadlbcaaGreatDoorGG
import Derived.Test.YthbodgnoadlbcaaGreatDoorG22
import Derived.Test.YthbodgnoadlbcaaGreatDoorG2
import Derived.Test.YthbodgnoadlbcaaGreatDoorG13
import Derived.Test.YthbodgnoadlbcaaGreatDoorG9
import Derived.Test.YthbodgnoadlbcaaGreatDoorS2
/- Several texts in one. -/
/- Graphs put together. -/
namespace Go.Proofs.YthbodgnoadlbcaaGreatDoor.Asl
open Go.RowKit Go.Proofs.YthbodgnoadlbcaaGreatDoorW.PrintLast
set_option linter.unusedVariables false
attribute [local irreducible] WP WL andThen inBlock noGoto atEnd ACall DA DL PO Hold
set_option maxHeartbeats 4000000

def shiftM (n : Int) (m : Mv) : Mv := (m.1, m.2 + n)
end Go.Proofs.YthbodgnoadlbcaaGreatDoor.Asl

/- Rounds: the reference. -/
namespace Go.Proofs.YthbodgnoadlbcaaGreatDoor.Asl
open Go.RowKit Go.Proofs.YthbodgnoadlbcaaGreatDoorW.PrintLast
set_option linter.unusedVariables false
set_option linter.unusedSimpArgs false
attribute [local irreducible] WP WL andThen inBlock noGoto atEnd ACall DA DL PO Hold
set_option maxHeartbeats 4000000
set_option synthInstance.maxHeartbeats 400000
set_option synthInstance.maxSize 10000
end Go.Proofs.YthbodgnoadlbcaaGreatDoor.Asl

/- Several texts in one. -/
/- The drawn laws' helpers on lists of numbers and on graphs. -/
namespace Go.Proofs.YthbodgnoadlbcaaGreatDoor.Asl
open Go.RowKit Go.Proofs.YthbodgnoadlbcaaGreatDoorW.PrintLast
set_option linter.unusedVariables false
set_option linter.unusedSimpArgs false
attribute [local irreducible] WP WL andThen inBlock noGoto atEnd ACall DA DL PO Hold
set_option maxHeartbeats 4000000
set_option synthInstance.maxHeartbeats 400000
set_option synthInstance.maxSize 10000
/-- A list of numbers rises. -/
def Rises (l : List Nat) : Prop := ∀ i, i + 1 < l.length → l.getD i 0 < l.getD (i + 1) 0
/-- What is of one class by the first list is so by the second. -/
def Finer (a b : List Nat) : Prop := a.length = b.length ∧ ∀ s t, s < a.length → t < s → a.getD s 0 = a.getD t 0 → b.getD s 0 = b.getD t 0
end Go.Proofs.YthbodgnoadlbcaaGreatDoor.Asl

/- Several texts in one. -/
/- Rounds, one behind the other: the reference. -/
namespace Go.Proofs.YthbodgnoadlbcaaGreatDoor.Asl
open Go.RowKit Go.Proofs.YthbodgnoadlbcaaGreatDoorW.PrintLast
set_option linter.unusedVariables false
set_option linter.unusedSimpArgs false
attribute [local irreducible] WP WL andThen inBlock noGoto atEnd ACall DA DL PO Hold
set_option maxHeartbeats 4000000
set_option synthInstance.maxHeartbeats 400000
set_option synthInstance.maxSize 10000
end Go.Proofs.YthbodgnoadlbcaaGreatDoor.Asl

/- Several texts in one. -/
/- Rounds: the program's parts. -/
namespace Go.Proofs.YthbodgnoadlbcaaGreatDoor.Asl
open Go.RowKit Go.Proofs.YthbodgnoadlbcaaGreatDoorW.PrintLast
set_option linter.unusedVariables false
set_option linter.unusedSimpArgs false
attribute [local irreducible] WP WL andThen inBlock noGoto atEnd ACall DA DL PO Hold
set_option maxHeartbeats 4000000
set_option synthInstance.maxHeartbeats 400000
set_option synthInstance.maxSize 10000
end Go.Proofs.YthbodgnoadlbcaaGreatDoor.Asl

/- The drawn laws' helpers on rows and on graphs. -/
namespace Go.Proofs.YthbodgnoadlbcaaGreatDoor.Asl
open Go.RowKit Go.Proofs.YthbodgnoadlbcaaGreatDoorW.PrintLast
set_option linter.unusedVariables false
set_option linter.unusedSimpArgs false
attribute [local irreducible] WP WL andThen inBlock noGoto atEnd ACall DA DL PO Hold
set_option maxHeartbeats 4000000
set_option synthInstance.maxHeartbeats 400000
set_option synthInstance.maxSize 10000
section
variable {base : Nat}
theorem c_mnGraphR (σ : Store) (s s' : AV) {ss ss' : List AV} {g : Gr} [hs : RW σ s ss] [hs' : RW σ s' ss'] [hg : RRs σ ss g] [hg' : RRs σ ss' g] : ACall Tryz.prog base F_laws_mnGraph [.agg [s], .agg [s']] σ (fun _ => False) (Ret σ (Bo true)) := by
  have hb := hs.bound
  have hb' := hs'.bound
  have := hs.one
  have := hs'.one
  have h1 := hg.len
  have h2 := hg'.len
  refine acall2 fun_laws_mnGraph rfl tmps_laws_mnGraph rfl fun N B w₀ ρ₀ => ?_
  repeat' (first
    | refine wl_pop rfl (pc_lenRow rfl inferInstance inferInstance) ?_
    | refine wp_seqA ?_
    | refine wp_region_seq ?_
    | refine thru_seq_next ?_
    | refine thru_seq_ret ?_
    | refine wp_skipA ?_
    | refine wp_retA ?_
    | refine wp_blockA ?_
    | refine wl_nil ?_
    | refine wl_pop rfl (po_assign rfl) ?_
    | refine wl_pop rfl (po_binOp rfl rfl rfl) ?_
    | refine wl_pop rfl (po_fieldAddr rfl inferInstance) ?_
    | refine wc_load1 rfl inferInstance (at_has (.inl rfl) rfl rfl) rfl ?_
    | (refine wc_boxA rfl inferInstance rfl ?_; intro _ _ _ _ _)
    | refine wp_condNP rfl (fun _ => ?_) (fun _ => ?_)
    | refine at_ret (res1 rfl rfl) ?_
    | fail)
  · exact absurd ‹_› (by omega)
  rename_i i1 σ1 g1 n1 e1 i2 σ2 g2 n2 e2 hl
  refine wc_loop [(2, _), (3, _)] (fun k : Nat => [(5, I k)]) (fun k σ' => k ≤ g.length ∧ LeS σ2 σ') (fun k => g.length - k) 0 ⟨Nat.zero_le _, inferInstance⟩ (by repeat' (first | exact sub_nil | refine sub_cons rfl ?_ | refine sub_int rfl (by first | rfl | omega | (push_cast; omega) | simp) ?_ | refine sub_eq rfl (by assumption) ?_)) ?_
  rintro k σ' ⟨hk, hgr⟩
  have := hgr.grow
  repeat' (first
    | refine wl_pop rfl (pc_lenRow rfl inferInstance inferInstance) ?_
    | refine wp_seqA ?_
    | refine wp_region_seq ?_
    | refine thru_seq_next ?_
    | refine thru_seq ?_
    | refine exit_here ?_
    | refine wp_skipA ?_
    | refine wp_retA ?_
    | refine wp_exitA ?_
    | refine wp_blockA ?_
    | refine wl_nil ?_
    | refine wl_pop rfl (po_move rfl) ?_
    | refine wl_pop rfl (po_assign rfl) ?_
    | refine wl_pop rfl (po_binOp rfl rfl rfl) ?_
    | refine wl_pop rfl (po_fieldAddr rfl inferInstance) ?_
    | refine wc_load1 rfl inferInstance (at_has (.inl rfl) rfl rfl) rfl ?_
    | refine wp_condP rfl (fun _ => ?_) (fun _ => ?_)
    | refine at_ret (res1 rfl rfl) ?_
    | exact ret_ inferInstance rfl
    | fail)
  have hk' : k < g.length := by omega
  have hk1 : k < ss.length := by omega
  have hk2 : k < ss'.length := by omega
  have hrb := (hg.row k).bound
  refine wc_drawn [] mixed_ rfl ?_
  all_goals refine da_takeC 0 rfl rfl (by kernel_rfl) (by first | exact po_fieldAddr rfl inferInstance | fail) ?_
  all_goals refine da_takeC 1 rfl rfl (by kernel_rfl) (by first | exact pc_load1L rfl inferInstance (at_has (.inl rfl) rfl rfl) inferInstance | fail) ?_
  all_goals refine da_takeC 2 rfl rfl (by kernel_rfl) (by first | exact po_move rfl | fail) ?_
  all_goals refine da_takeC 3 rfl rfl (by kernel_rfl) (by first | exact pc_indexRow rfl rfl inferInstance inferInstance inferInstance (by omega) | fail) ?_
  all_goals refine da_takeC 4 rfl rfl (by kernel_rfl) (by first | exact pc_ldAV rfl inferInstance inferInstance (by omega) inferInstance | fail) ?_
  all_goals refine da_takeC 5 rfl rfl (by kernel_rfl) (by first | exact pc_lenRow rfl inferInstance inferInstance | fail) ?_
  all_goals refine da_takeC 6 rfl rfl (by kernel_rfl) (by first | exact po_fieldAddr rfl inferInstance | fail) ?_
  all_goals refine da_takeC 7 rfl rfl (by kernel_rfl) (by first | exact pc_load1L rfl inferInstance (at_has (.inl rfl) rfl rfl) inferInstance | fail) ?_
  all_goals refine da_takeC 8 rfl rfl (by kernel_rfl) (by first | exact po_move rfl | fail) ?_
  all_goals refine da_takeC 9 rfl rfl (by kernel_rfl) (by first | exact pc_indexRow rfl rfl inferInstance inferInstance inferInstance (by omega) | fail) ?_
  all_goals refine da_takeC 10 rfl rfl (by kernel_rfl) (by first | exact pc_ldAV rfl inferInstance inferInstance (by omega) inferInstance | fail) ?_
  all_goals refine da_takeC 11 rfl rfl (by kernel_rfl) (by first | exact pc_lenRow rfl inferInstance inferInstance | fail) ?_
  all_goals refine da_takeC 12 rfl rfl (by kernel_rfl) (by first | exact po_binOp rfl rfl rfl | fail) ?_
  all_goals refine da_done (by kernel_rfl) ?_
  repeat' (first
    | refine wp_seqA ?_
    | refine wp_region_seq ?_
    | refine thru_seq_next ?_
    | refine thru_seq_ret ?_
    | refine thru_block_ret ?_
    | refine wp_skipA ?_
    | refine wp_retA ?_
    | refine wp_blockA ?_
    | refine wl_nil ?_
    | refine wl_pop rfl (po_assign rfl) ?_
    | refine wp_condNP rfl (fun _ => ?_) (fun _ => ?_)
    | refine at_ret (res1 rfl rfl) ?_
    | fail)
  · exact absurd rfl (by assumption)
  refine wc_loop [(2, _), (3, _), (5, _)] (fun j : Nat => [(6, I j)]) (fun j σ'' => j ≤ (g.getD k []).length ∧ LeS σ' σ'') (fun j => (g.getD k []).length - j) 0 ⟨Nat.zero_le _, inferInstance⟩ (by repeat' (first | exact sub_nil | refine sub_cons rfl ?_ | refine sub_int rfl (by first | rfl | omega | (push_cast; omega) | simp) ?_ | refine sub_eq rfl (by assumption) ?_)) ?_
  rintro j σ'' ⟨hj, hgr2⟩
  have := hgr2.grow
  repeat' (first
    | refine wl_pop rfl (pc_ldAV rfl inferInstance inferInstance (by omega) inferInstance) ?_
    | refine wl_pop rfl (pc_indexRow rfl rfl inferInstance inferInstance inferInstance (by omega)) ?_
    | refine wl_pop rfl (pc_lenRow rfl inferInstance inferInstance) ?_
    | refine wp_seqA ?_
    | refine wp_region_seq ?_
    | refine thru_seq_next ?_
    | refine thru_seq ?_
    | refine thru_block_next ?_
    | refine exit_here ?_
    | refine wp_skipA ?_
    | refine wp_exitA ?_
    | refine wp_blockA ?_
    | refine wl_nil ?_
    | refine wl_pop rfl (po_move rfl) ?_
    | refine wl_pop rfl (po_assign rfl) ?_
    | refine wl_pop rfl (pc_add rfl rfl (by omega) (by omega)) ?_
    | refine wl_pop rfl (po_binOp rfl rfl rfl) ?_
    | refine wl_pop rfl (po_fieldAddr rfl inferInstance) ?_
    | refine wc_load1 rfl inferInstance (at_has (.inl rfl) rfl rfl) rfl ?_
    | refine wp_condP rfl (fun _ => ?_) (fun _ => ?_)
    | fail)
  rotate_left
  · exact ⟨k + 1, by omega, ⟨hk', inferInstance⟩, (by repeat' (first | exact sub_nil | refine sub_cons rfl ?_ | refine sub_int rfl (by first | rfl | omega | (push_cast; omega) | simp) ?_ | refine sub_eq rfl (by assumption) ?_))⟩
  have hj' : j < (g.getD k []).length := by omega
  refine wc_drawn [] mixed_ rfl ?_
  all_goals refine da_takeC 0 rfl rfl (by kernel_rfl) (by first | exact po_fieldAddr rfl inferInstance | fail) ?_
  all_goals refine da_takeC 1 rfl rfl (by kernel_rfl) (by first | exact pc_load1L rfl inferInstance (at_has (.inl rfl) rfl rfl) inferInstance | fail) ?_
  all_goals refine da_takeC 2 rfl rfl (by kernel_rfl) (by first | exact po_move rfl | fail) ?_
  all_goals refine da_takeC 3 rfl rfl (by kernel_rfl) (by first | exact pc_indexRow rfl rfl inferInstance inferInstance inferInstance (by omega) | fail) ?_
  all_goals refine da_takeC 4 rfl rfl (by kernel_rfl) (by first | exact pc_ldAV rfl inferInstance inferInstance (by omega) inferInstance | fail) ?_
  all_goals refine da_takeC 5 rfl rfl (by kernel_rfl) (by first | exact po_move rfl | fail) ?_
  all_goals refine da_takeC 6 rfl rfl (by kernel_rfl) (by first | exact pc_indexRow rfl rfl inferInstance inferInstance inferInstance (by omega) | fail) ?_
  all_goals refine da_takeC 7 rfl rfl (by kernel_rfl) (by first | exact pc_ldMv rfl inferInstance inferInstance (by omega) inferInstance | fail) ?_
  all_goals refine da_takeC 8 rfl rfl (by kernel_rfl) (by first | exact po_fieldAddr rfl inferInstance | fail) ?_
  all_goals refine da_takeC 9 rfl rfl (by kernel_rfl) (by first | exact pc_load1L rfl inferInstance (at_has (.inl rfl) rfl rfl) inferInstance | fail) ?_
  all_goals refine da_takeC 10 rfl rfl (by kernel_rfl) (by first | exact po_move rfl | fail) ?_
  all_goals refine da_takeC 11 rfl rfl (by kernel_rfl) (by first | exact pc_indexRow rfl rfl inferInstance inferInstance inferInstance (by omega) | fail) ?_
  all_goals refine da_takeC 12 rfl rfl (by kernel_rfl) (by first | exact pc_ldAV rfl inferInstance inferInstance (by omega) inferInstance | fail) ?_
  all_goals refine da_takeC 13 rfl rfl (by kernel_rfl) (by first | exact po_move rfl | fail) ?_
  all_goals refine da_takeC 14 rfl rfl (by kernel_rfl) (by first | exact pc_indexRow rfl rfl inferInstance inferInstance inferInstance (by omega) | fail) ?_
  all_goals refine da_takeC 15 rfl rfl (by kernel_rfl) (by first | exact pc_ldMv rfl inferInstance inferInstance (by omega) inferInstance | fail) ?_
  all_goals refine da_takeC 16 rfl rfl (by kernel_rfl) (by first | exact pc_neMv rfl rfl inferInstance | fail) ?_
  all_goals refine da_done (by kernel_rfl) ?_
  repeat' (first
    | refine wp_seqA ?_
    | refine wp_region_seq ?_
    | refine thru_seq_next ?_
    | refine thru_seq_ret ?_
    | refine thru_block_ret ?_
    | refine thru_block_next ?_
    | refine wp_skipA ?_
    | refine wp_retA ?_
    | refine wl_nil ?_
    | refine wl_pop rfl (po_move rfl) ?_
    | refine wl_pop rfl (po_assign rfl) ?_
    | refine wl_pop rfl (pc_add rfl rfl (by omega) (by omega)) ?_
    | refine wp_condNP rfl (fun _ => ?_) (fun _ => ?_)
    | refine at_ret (res1 rfl rfl) ?_
    | fail)
  all_goals first | exact absurd rfl (by assumption) | (rename_i he; exact absurd ⟨rfl, rfl⟩ he) | skip
  exact ⟨j + 1, by omega, ⟨hj', inferInstance⟩, (by repeat' (first | exact sub_nil | refine sub_cons rfl ?_ | refine sub_int rfl (by first | rfl | omega | (push_cast; omega) | simp) ?_ | refine sub_eq rfl (by assumption) ?_))⟩
end
end Go.Proofs.YthbodgnoadlbcaaGreatDoor.Asl
