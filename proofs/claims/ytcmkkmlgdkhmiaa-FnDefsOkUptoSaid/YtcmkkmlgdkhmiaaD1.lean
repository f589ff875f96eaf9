/- The reader: one pick. -/
import Derived.Test.YtcmkkmlgdkhmiaaD0
namespace Go.Proofs.Ytcmkkmlgdkhmiaa.Asl
open Go.RowKit
set_option linter.unusedVariables false
attribute [local irreducible] WP WL andThen inBlock noGoto atEnd ACall DA DL PO Hold
set_option maxHeartbeats 4000000
section
variable {base : Nat}
theorem c_pick (i : Nat) (s : AV) (g : List UInt8) (p n : Int) (σ : Store) [hi : Has σ i (RdO s p)] [hb : Bk σ i s g] (hp : 0 ≤ p) (hp2 : p ≤ 1000000000) : ACall Try.prog base F_spec_l6Rd_pick [.pt i 0, I n] σ (fun j => j = i) (RetRd σ i s p 1 (QP 0 (n - 1))) := by
  have hrw := hb.rw
  have := hrw.one
  refine acall2 fun_spec_l6Rd_pick rfl tmps_spec_l6Rd_pick rfl fun N B w₀ ρ₀ => ?_
  repeat' (first
    | (refine wc_store1 rfl rfl inferInstance inferInstance inferInstance (Nat.le_of_ble_eq_true rfl) (.inl rfl) ?_; intro _ _)
    | refine wl_pop rfl (pc_lenRow rfl (hb.le inferInstance).rw inferInstance) ?_
    | refine wc_holdR 4 ?_
    | refine wp_seqA ?_
    | refine wp_region_seq ?_
    | refine thru_seq_next ?_
    | refine thru_seq_ret ?_
    | refine wp_skipA ?_
    | refine wp_retA ?_
    | refine wl_nil ?_
    | refine wl_pop rfl (po_move rfl) ?_
    | refine wl_pop rfl (po_assign rfl) ?_
    | refine wl_pop rfl (pc_add rfl rfl (by omega) (by omega)) ?_
    | refine wl_pop rfl (po_binOp rfl rfl rfl) ?_
    | refine wl_pop rfl (po_fieldAddr rfl inferInstance) ?_
    | refine wc_load1 rfl inferInstance (at_has (.inl rfl) rfl rfl) rfl ?_
    | refine wl_pop rfl (po_nilCheck rfl) ?_
    | refine wl_pop rfl (po_pick rfl rfl) ?_
    | refine wc_guardT_false rfl rfl rfl ?_
    | refine wc_guardF_false rfl rfl rfl rfl ?_
    | refine wc_guardP_false rfl rfl rfl rfl (fun _ => ?_) (fun _ => ?_)
    | refine wp_condT rfl ?_
    | refine wp_condP rfl (fun _ => ?_) (fun _ => ?_)
    | refine at_ret (res1 rfl rfl) ?_
    | fail)
  · rename_i σ1 u1 hn hl
    exact ⟨⟨p + 1, by omega, by omega, (inferInstance : Has σ1 i ⟨.own, 1, splice [s, I p] (0 + 1) [I (p + 1)], []⟩)⟩, inferInstance, 0, rfl, by omega, .inr rfl⟩
  rotate_left
  · rename_i σ1 u1 hn
    exact ⟨⟨p + 1, by omega, by omega, (inferInstance : Has σ1 i ⟨.own, 1, splice [s, I p] (0 + 1) [I (p + 1)], []⟩)⟩, inferInstance, 0, rfl, by omega, .inr rfl⟩
  · rename_i σ1 u1 hn hl
    refine hold_go ?_
    have h1 : Has σ1 i (RdO s (p + 1)) := by
      have : Has σ1 i ⟨.own, 1, splice [s, I p] (0 + 1) [I (p + 1)], []⟩ := inferInstance
      exact this
    have hb1 := hb.le (inferInstance : LeB i σ σ1)
    have hrw1 := hb1.rw
    have hle1 : LeB i σ σ1 := inferInstance
    clear u1
    have hL : 0 < g.length := by omega
    have hL' : (0 : Int) < (g.length : Int) := by omega
    have a1 := Int.emod_nonneg p (show (g.length : Int) ≠ 0 by omega)
    have a2 := Int.emod_lt_of_pos p hL'
    have a3 := Int.emod_nonneg (p * 7 + 3) (show (g.length : Int) ≠ 0 by omega)
    have a4 := Int.emod_lt_of_pos (p * 7 + 3) hL'
    have a5 := Int.ediv_nonneg hp (Int.le_of_lt hL')
    have a6 := Int.ediv_le_self (g.length : Int) hp
    repeat' (first
      | refine wc_holdR 5 ?_
      | refine wp_seqA ?_
      | refine wp_region_seq ?_
      | refine thru_seq_next ?_
      | refine wl_nil ?_
      | refine wl_pop rfl (po_move rfl) ?_
      | refine wl_pop rfl (po_assign rfl) ?_
      | refine wl_pop rfl (pc_sub rfl rfl (by omega) (by omega)) ?_
      | refine wl_pop rfl (po_fieldAddr rfl inferInstance) ?_
      | refine wc_load1 rfl inferInstance (at_has (.inl rfl) rfl rfl) rfl ?_
      | refine wl_pop rfl (po_nilCheck rfl) ?_
      | fail)
    refine hold_go ?_
    rw [show p + 1 - 1 = p by omega]
    repeat' (first
      | refine wl_pop rfl (pc_lenRow rfl hrw1 inferInstance) ?_
      | refine wc_holdR 7 ?_
      | refine wl_pop rfl (pc_indexRowZ rfl rfl inferInstance inferInstance hrw1 (by omega) (by omega)) ?_
      | refine wl_pop rfl (pc_ldU8 rfl inferInstance hrw1 (by omega) instLeRefl) ?_
      | refine wl_pop rfl (pc_convU8 rfl inferInstance inferInstance (Nat.lt_trans (UInt8.toNat_lt _) (by decide))) ?_
      | refine wl_pop rfl (pc_remN rfl rfl (by omega) (by omega)) ?_
      | refine wp_seqA ?_
      | refine wp_region_seq ?_
      | refine thru_seq_next ?_
      | refine thru_seq_ret ?_
      | refine wp_skipA ?_
      | refine wp_retA ?_
      | refine wl_nil ?_
      | refine wl_pop rfl (po_move rfl) ?_
      | refine wl_pop rfl (po_assign rfl) ?_
      | refine wl_pop rfl (po_binOp rfl rfl rfl) ?_
      | refine wl_pop rfl (po_fieldAddr rfl inferInstance) ?_
      | refine wc_load1 rfl inferInstance (at_has (.inl rfl) rfl rfl) rfl ?_
      | refine wl_pop rfl (po_nilCheck rfl) ?_
      | refine wp_condP rfl (fun _ => ?_) (fun _ => ?_)
      | refine at_ret (res1 rfl rfl) ?_
      | fail)
    · exact ⟨⟨p + 1, by omega, by omega, h1⟩, hle1, _, rfl, Int.emod_nonneg _ (by omega), .inl (by have := Int.emod_lt_of_pos ((g.getD p.toNat 0).toNat : Int) (show 0 < n by omega); omega)⟩
    refine hold_go ?_
    have b1 := UInt8.toNat_lt (g.getD (p % (g.length : Int)).toNat 0)
    have b2 := UInt8.toNat_lt (g.getD ((p * 7 + 3) % (g.length : Int)).toNat 0)
    refine wc_drawn [] mixed_ rfl ?_
    all_goals refine da_takeC 0 rfl rfl (by kernel_rfl) (by first | exact po_move rfl | fail) ?_
    all_goals refine da_takeC 1 rfl rfl (by kernel_rfl) (by first | exact po_nilCheck rfl | fail) ?_
    all_goals refine da_takeC 2 rfl rfl (by kernel_rfl) (by first | exact po_fieldAddr rfl inferInstance | fail) ?_
    all_goals refine da_takeC 3 rfl rfl (by kernel_rfl) (by first | exact pc_load1L rfl inferInstance (at_has (.inl rfl) rfl rfl) inferInstance | fail) ?_
    all_goals refine da_takeC 4 rfl rfl (by kernel_rfl) (by first | exact po_move rfl | fail) ?_
    all_goals refine da_takeC 5 rfl rfl (by kernel_rfl) (by first | exact po_move rfl | fail) ?_
    all_goals refine da_takeC 6 rfl rfl (by kernel_rfl) (by first | exact po_nilCheck rfl | fail) ?_
    all_goals refine da_takeC 7 rfl rfl (by kernel_rfl) (by first | exact po_fieldAddr rfl inferInstance | fail) ?_
    all_goals refine da_takeC 8 rfl rfl (by kernel_rfl) (by first | exact pc_load1L rfl inferInstance (at_has (.inl rfl) rfl rfl) inferInstance | fail) ?_
    all_goals refine da_takeC 9 rfl rfl (by kernel_rfl) (by first | exact pc_lenRow rfl hrw1 inferInstance | fail) ?_
    all_goals refine da_takeC 10 rfl rfl (by kernel_rfl) (by first | exact pc_remN rfl rfl (by omega) (by omega) | fail) ?_
    all_goals refine da_takeC 11 rfl rfl (by kernel_rfl) (by first | exact pc_indexRowZ rfl rfl inferInstance inferInstance hrw1 (by omega) (by omega) | fail) ?_
    all_goals refine da_takeC 12 rfl rfl (by kernel_rfl) (by first | exact pc_ldU8 rfl inferInstance hrw1 (by omega) instLeRefl | fail) ?_
    all_goals refine da_takeC 13 rfl rfl (by kernel_rfl) (by first | exact pc_convU8 rfl inferInstance inferInstance (Nat.lt_trans (UInt8.toNat_lt _) (by decide)) | fail) ?_
    all_goals refine da_takeC 14 rfl rfl (by kernel_rfl) (by first | exact pc_mul rfl rfl (by omega) (by omega) | fail) ?_
    all_goals refine da_takeC 15 rfl rfl (by kernel_rfl) (by first | exact po_move rfl | fail) ?_
    all_goals refine da_takeC 16 rfl rfl (by kernel_rfl) (by first | exact po_nilCheck rfl | fail) ?_
    all_goals refine da_takeC 17 rfl rfl (by kernel_rfl) (by first | exact po_fieldAddr rfl inferInstance | fail) ?_
    all_goals refine da_takeC 18 rfl rfl (by kernel_rfl) (by first | exact pc_load1L rfl inferInstance (at_has (.inl rfl) rfl rfl) inferInstance | fail) ?_
    all_goals refine da_takeC 19 rfl rfl (by kernel_rfl) (by first | exact po_move rfl | fail) ?_
    all_goals refine da_takeC 20 rfl rfl (by kernel_rfl) (by first | exact pc_mul rfl rfl (by omega) (by omega) | fail) ?_
    all_goals refine da_takeC 21 rfl rfl (by kernel_rfl) (by first | exact pc_add rfl rfl (by omega) (by omega) | fail) ?_
    all_goals refine da_takeC 22 rfl rfl (by kernel_rfl) (by first | exact po_move rfl | fail) ?_
    all_goals refine da_takeC 23 rfl rfl (by kernel_rfl) (by first | exact po_nilCheck rfl | fail) ?_
    all_goals refine da_takeC 24 rfl rfl (by kernel_rfl) (by first | exact po_fieldAddr rfl inferInstance | fail) ?_
    all_goals refine da_takeC 25 rfl rfl (by kernel_rfl) (by first | exact pc_load1L rfl inferInstance (at_has (.inl rfl) rfl rfl) inferInstance | fail) ?_
    all_goals refine da_takeC 26 rfl rfl (by kernel_rfl) (by first | exact pc_lenRow rfl hrw1 inferInstance | fail) ?_
    all_goals refine da_takeC 27 rfl rfl (by kernel_rfl) (by first | exact pc_remN rfl rfl (by omega) (by omega) | fail) ?_
    all_goals refine da_takeC 28 rfl rfl (by kernel_rfl) (by first | exact pc_indexRowZ rfl rfl inferInstance inferInstance hrw1 (by omega) (by omega) | fail) ?_
    all_goals refine da_takeC 29 rfl rfl (by kernel_rfl) (by first | exact pc_ldU8 rfl inferInstance hrw1 (by omega) instLeRefl | fail) ?_
    all_goals refine da_takeC 30 rfl rfl (by kernel_rfl) (by first | exact pc_convU8 rfl inferInstance inferInstance (Nat.lt_trans (UInt8.toNat_lt _) (by decide)) | fail) ?_
    all_goals refine da_takeC 31 rfl rfl (by kernel_rfl) (by first | exact pc_mul rfl rfl (by omega) (by omega) | fail) ?_
    all_goals refine da_takeC 32 rfl rfl (by kernel_rfl) (by first | exact pc_add rfl rfl (by omega) (by omega) | fail) ?_
    all_goals refine da_takeC 33 rfl rfl (by kernel_rfl) (by first | exact po_move rfl | fail) ?_
    all_goals refine da_takeC 34 rfl rfl (by kernel_rfl) (by first | exact pc_mul rfl rfl (by omega) (by omega) | fail) ?_
    all_goals refine da_takeC 35 rfl rfl (by kernel_rfl) (by first | exact pc_add rfl rfl (by omega) (by omega) | fail) ?_
    all_goals refine da_takeC 36 rfl rfl (by kernel_rfl) (by first | exact po_move rfl | fail) ?_
    all_goals refine da_takeC 37 rfl rfl (by kernel_rfl) (by first | exact po_move rfl | fail) ?_
    all_goals refine da_takeC 38 rfl rfl (by kernel_rfl) (by first | exact po_nilCheck rfl | fail) ?_
    all_goals refine da_takeC 39 rfl rfl (by kernel_rfl) (by first | exact po_fieldAddr rfl inferInstance | fail) ?_
    all_goals refine da_takeC 40 rfl rfl (by kernel_rfl) (by first | exact pc_load1L rfl inferInstance (at_has (.inl rfl) rfl rfl) inferInstance | fail) ?_
    all_goals refine da_takeC 41 rfl rfl (by kernel_rfl) (by first | exact pc_lenRow rfl hrw1 inferInstance | fail) ?_
    all_goals refine da_takeC 42 rfl rfl (by kernel_rfl) (by first | exact pc_quoN rfl rfl (by omega) (by omega) (by omega) | fail) ?_
    all_goals refine da_takeC 43 rfl rfl (by kernel_rfl) (by first | exact pc_mul rfl rfl (by omega) (by omega) | fail) ?_
    all_goals refine da_takeC 44 rfl rfl (by kernel_rfl) (by first | exact pc_add rfl rfl (by omega) (by omega) | fail) ?_
    all_goals refine da_takeC 45 rfl rfl (by kernel_rfl) (by first | exact po_assign rfl | fail) ?_
    all_goals refine da_done (by kernel_rfl) ?_
    generalize hV1 : ((g.getD (p % (g.length : Int)).toNat 0).toNat : Int) = V1 at *
    generalize hV2 : ((g.getD ((p * 7 + 3) % (g.length : Int)).toNat 0).toNat : Int) = V2 at *
    have c1 : 0 ≤ V1 ∧ V1 < 256 := by omega
    have c2 : 0 ≤ V2 ∧ V2 < 256 := by omega
    repeat' (first
      | refine wl_pop rfl (pc_quoN rfl rfl (by omega) (by omega) (by omega)) ?_
      | refine wl_pop rfl (pc_xorN rfl rfl (by omega) (by omega) (by omega) (by omega)) ?_
      | refine wl_pop rfl (pc_remN rfl rfl (by omega) (by omega)) ?_
      | refine wp_seqA ?_
      | refine wp_region_seq ?_
      | refine thru_seq_next ?_
      | refine wp_retA ?_
      | refine wl_nil ?_
      | refine wl_pop rfl (po_move rfl) ?_
      | refine wl_pop rfl (po_assign rfl) ?_
      | refine at_ret (res1 rfl rfl) ?_
      | fail)
    exact ⟨⟨p + 1, by omega, by omega, h1⟩, hle1, _, rfl, Int.emod_nonneg _ (by omega), .inl (by
      have hn0 : 0 < n := by omega
      have := Int.emod_lt_of_pos ((((V1 * 131 + V2 * 1117 + p * 29 + p / (g.length : Int) * 53).toNat ^^^ ((V1 * 131 + V2 * 1117 + p * 29 + p / (g.length : Int) * 53) / 64).toNat : Nat) : Int)) hn0
      omega)⟩
end
end Go.Proofs.Ytcmkkmlgdkhmiaa.Asl
