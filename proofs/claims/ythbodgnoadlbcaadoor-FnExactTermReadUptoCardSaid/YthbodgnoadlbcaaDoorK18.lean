/- Reading a term: the judge's word. -/
import Derived.Test.YthbodgnoadlbcaaDoorK14
import Derived.Test.YthbodgnoadlbcaaDoorT20
namespace Go.Proofs.YthbodgnoadlbcaaDoor.Asl
open Go.RowKit Go.Proofs.YthbodgnoadlbcaaDoorW.PrintLast
set_option linter.unusedVariables false
set_option linter.unusedSimpArgs false
attribute [local irreducible] WP WL andThen inBlock noGoto atEnd ACall DA DL DX PO Hold nodeOk
set_option maxHeartbeats 4000000
set_option synthInstance.maxHeartbeats 400000
set_option synthInstance.maxSize 10000
theorem word_of {s : List UInt8} {n : Nat} (h : ∀ b ∈ s.take n, dlm b = false) (he : s.length ≤ n ∨ dlm (s.getD n 0) = true ∧ n < s.length) : wordL s = s.take n ∧ restL s = s.drop n := by
  have hr : Dl (s.drop n) := by
    rcases he with he | ⟨he, hn⟩
    · left; exact List.drop_eq_nil_of_le he
    · right
      refine ⟨s.getD n 0, s.drop (n + 1), ?_, he⟩
      rw [List.drop_eq_getElem_cons hn]
      congr 1
      simp [List.getD_eq_getElem?_getD, hn]
  have := word_app h hr
  rwa [List.take_append_drop] at this
theorem dlm_iff (b : UInt8) : dlm b = true ↔ (b.toNat : Int) = 32 ∨ (b.toNat : Int) = 41 ∨ (b.toNat : Int) = 40 := by
  have e : ∀ c : UInt8, b = c ↔ b.toNat = c.toNat := fun c => ⟨fun h => by rw [h], fun h => UInt8.toNat_inj.mp h⟩
  unfold dlm
  simp only [Bool.or_eq_true, beq_iff_eq, e]
  have h1 : (32 : UInt8).toNat = 32 := rfl
  have h2 : (41 : UInt8).toNat = 41 := rfl
  have h3 : (40 : UInt8).toNat = 40 := rfl
  rw [h1, h2, h3]
  omega
section
variable {base : Nat}
theorem c_l2Word (s : List UInt8) (hs : s.length ≤ 4000000) (σ : Store) : ACall Tryd.prog base F_spec_l2Word [Str (ofL s)] σ (fun _ => False) (Ret σ (.tup [Str (ofL (wordL s)), Str (ofL (restL s))])) := by
  refine acall1 fun_spec_l2Word rfl tmps_spec_l2Word rfl fun N B w₀ ρ₀ => ?_
  repeat' (first
    | refine wp_seqA ?_
    | refine wp_region_seq ?_
    | refine thru_seq_next ?_
    | refine wp_blockA ?_
    | refine wl_nil ?_
    | refine wl_pop rfl (po_assign rfl) ?_
    | fail)
  refine wc_loop [(0, _)] (fun n : Nat => [(4, I n)]) (fun n σ' => n ≤ s.length ∧ (∀ b ∈ s.take n, dlm b = false) ∧ LeS σ σ') (fun n => s.length - n) 0 ⟨Nat.zero_le _, by simp, inferInstance⟩ (by repeat' (first | exact sub_nil | refine sub_cons rfl ?_ | refine sub_int rfl (by first | rfl | omega | (push_cast; omega) | simp) ?_ | refine sub_eq rfl (by assumption) ?_)) ?_
  rintro n σ' ⟨hn, hno, hg⟩
  have := hg.grow
  repeat' (first
    | refine wl_pop rfl (pc_lLen rfl inferInstance) ?_
    | refine wl_pop rfl (pc_lAt rfl rfl inferInstance (by omega) (by omega)) ?_
    | refine wc_holdR 4 ?_
    | refine wp_seqA ?_
    | refine wp_region_seq ?_
    | refine thru_seq_next ?_
    | refine thru_seq ?_
    | refine thru_block_next ?_
    | refine exit_here ?_
    | refine wp_skipA ?_
    | refine wp_exitA ?_
    | refine wp_blockA ?_
    | refine wl_nil ?_
    | refine wl_pop rfl (po_move rfl) ?_
    | refine wl_pop rfl (po_assign rfl) ?_
    | refine wl_pop rfl (pc_add rfl rfl (by omega) (by omega)) ?_
    | refine wl_pop rfl (po_binOp rfl rfl rfl) ?_
    | refine wl_pop rfl (po_pick rfl rfl) ?_
    | refine wc_guardT_true rfl rfl rfl ?_
    | refine wc_guardF_true rfl rfl rfl rfl ?_
    | refine wc_guardP_true rfl rfl rfl rfl (fun _ => ?_) (fun _ => ?_)
    | refine wc_guardNP_true rfl rfl rfl rfl (fun _ => ?_) (fun _ => ?_)
    | refine wp_condF rfl ?_
    | refine wp_condNP rfl (fun _ => ?_) (fun _ => ?_)
    | fail)
  · rename_i h0 h1 h2 h3
    simp only [Int.toNat_natCast] at h1 h2 h3
    have hn' : n < s.length := by omega
    refine ⟨n + 1, by omega, ⟨by omega, fun b hb => ?_, hg⟩, (by repeat' (first | exact sub_nil | refine sub_cons rfl ?_ | refine sub_int rfl (by first | rfl | omega | (push_cast; omega) | simp) ?_ | refine sub_eq rfl (by assumption) ?_))⟩
    rw [List.take_add_one, List.getElem?_eq_getElem hn'] at hb
    rcases List.mem_append.mp hb with hb | hb
    · exact hno b hb
    · have e : s.getD n 0 = s[n] := by simp [List.getD_eq_getElem?_getD, hn']
      simp only [Option.toList_some, List.mem_singleton] at hb
      subst hb
      rw [e] at h1 h2 h3
      rw [← Bool.not_eq_true, dlm_iff]
      omega
  · have e := word_of hno (by
      first
        | (left; omega)
        | (right
           simp only [Int.toNat_natCast] at *
           exact ⟨(dlm_iff _).mpr (by omega), by omega⟩))
    refine hold_go ?_
    refine wc_drawn [] mixed_ rfl ?_
    all_goals refine da_takeC 0 rfl rfl (by kernel_rfl) (by first | exact po_move rfl | fail) ?_
    all_goals refine da_takeC 1 rfl rfl (by kernel_rfl) (by first | exact po_move rfl | fail) ?_
    all_goals refine da_takeC 2 rfl rfl (by kernel_rfl) (by first | exact pc_lTo rfl inferInstance rfl (by omega) (by omega) | fail) ?_
    all_goals refine da_takeC 3 rfl rfl (by kernel_rfl) (by first | exact po_move rfl | fail) ?_
    all_goals refine da_takeC 4 rfl rfl (by kernel_rfl) (by first | exact po_move rfl | fail) ?_
    all_goals refine da_takeC 5 rfl rfl (by kernel_rfl) (by first | exact pc_lFrom rfl inferInstance rfl (by omega) (by omega) | fail) ?_
    all_goals refine da_takeC 6 rfl rfl (by kernel_rfl) (by first | exact po_assign rfl | fail) ?_
    all_goals refine da_takeC 7 rfl rfl (by kernel_rfl) (by first | exact po_assign rfl | fail) ?_
    all_goals refine da_done (by kernel_rfl) ?_
    repeat' (first
      | refine thru_seq_next ?_
      | refine wp_retA ?_
      | refine at_ret (res2 rfl rfl rfl) ?_
      | fail)
    exact ret_ inferInstance (by rw [e.1, e.2]; simp only [Int.toNat_natCast])
  · have e := word_of hno (by
      first
        | (left; omega)
        | (right
           simp only [Int.toNat_natCast] at *
           exact ⟨(dlm_iff _).mpr (by omega), by omega⟩))
    refine hold_go ?_
    refine wc_drawn [] mixed_ rfl ?_
    all_goals refine da_takeC 0 rfl rfl (by kernel_rfl) (by first | exact po_move rfl | fail) ?_
    all_goals refine da_takeC 1 rfl rfl (by kernel_rfl) (by first | exact po_move rfl | fail) ?_
    all_goals refine da_takeC 2 rfl rfl (by kernel_rfl) (by first | exact pc_lTo rfl inferInstance rfl (by omega) (by omega) | fail) ?_
    all_goals refine da_takeC 3 rfl rfl (by kernel_rfl) (by first | exact po_move rfl | fail) ?_
    all_goals refine da_takeC 4 rfl rfl (by kernel_rfl) (by first | exact po_move rfl | fail) ?_
    all_goals refine da_takeC 5 rfl rfl (by kernel_rfl) (by first | exact pc_lFrom rfl inferInstance rfl (by omega) (by omega) | fail) ?_
    all_goals refine da_takeC 6 rfl rfl (by kernel_rfl) (by first | exact po_assign rfl | fail) ?_
    all_goals refine da_takeC 7 rfl rfl (by kernel_rfl) (by first | exact po_assign rfl | fail) ?_
    all_goals refine da_done (by kernel_rfl) ?_
    repeat' (first
      | refine thru_seq_next ?_
      | refine wp_retA ?_
      | refine at_ret (res2 rfl rfl rfl) ?_
      | fail)
    exact ret_ inferInstance (by rw [e.1, e.2]; simp only [Int.toNat_natCast])
  · have e := word_of hno (by
      first
        | (left; omega)
        | (right
           simp only [Int.toNat_natCast] at *
           exact ⟨(dlm_iff _).mpr (by omega), by omega⟩))
    refine hold_go ?_
    refine wc_drawn [] mixed_ rfl ?_
    all_goals refine da_takeC 0 rfl rfl (by kernel_rfl) (by first | exact po_move rfl | fail) ?_
    all_goals refine da_takeC 1 rfl rfl (by kernel_rfl) (by first | exact po_move rfl | fail) ?_
    all_goals refine da_takeC 2 rfl rfl (by kernel_rfl) (by first | exact pc_lTo rfl inferInstance rfl (by omega) (by omega) | fail) ?_
    all_goals refine da_takeC 3 rfl rfl (by kernel_rfl) (by first | exact po_move rfl | fail) ?_
    all_goals refine da_takeC 4 rfl rfl (by kernel_rfl) (by first | exact po_move rfl | fail) ?_
    all_goals refine da_takeC 5 rfl rfl (by kernel_rfl) (by first | exact pc_lFrom rfl inferInstance rfl (by omega) (by omega) | fail) ?_
    all_goals refine da_takeC 6 rfl rfl (by kernel_rfl) (by first | exact po_assign rfl | fail) ?_
    all_goals refine da_takeC 7 rfl rfl (by kernel_rfl) (by first | exact po_assign rfl | fail) ?_
    all_goals refine da_done (by kernel_rfl) ?_
    repeat' (first
      | refine thru_seq_next ?_
      | refine wp_retA ?_
      | refine at_ret (res2 rfl rfl rfl) ?_
      | fail)
    exact ret_ inferInstance (by rw [e.1, e.2]; simp only [Int.toNat_natCast])
  · have e := word_of hno (by
      first
        | (left; omega)
        | (right
           simp only [Int.toNat_natCast] at *
           exact ⟨(dlm_iff _).mpr (by omega), by omega⟩))
    refine hold_go ?_
    refine wc_drawn [] mixed_ rfl ?_
    all_goals refine da_takeC 0 rfl rfl (by kernel_rfl) (by first | exact po_move rfl | fail) ?_
    all_goals refine da_takeC 1 rfl rfl (by kernel_rfl) (by first | exact po_move rfl | fail) ?_
    all_goals refine da_takeC 2 rfl rfl (by kernel_rfl) (by first | exact pc_lTo rfl inferInstance rfl (by omega) (by omega) | fail) ?_
    all_goals refine da_takeC 3 rfl rfl (by kernel_rfl) (by first | exact po_move rfl | fail) ?_
    all_goals refine da_takeC 4 rfl rfl (by kernel_rfl) (by first | exact po_move rfl | fail) ?_
    all_goals refine da_takeC 5 rfl rfl (by kernel_rfl) (by first | exact pc_lFrom rfl inferInstance rfl (by omega) (by omega) | fail) ?_
    all_goals refine da_takeC 6 rfl rfl (by kernel_rfl) (by first | exact po_assign rfl | fail) ?_
    all_goals refine da_takeC 7 rfl rfl (by kernel_rfl) (by first | exact po_assign rfl | fail) ?_
    all_goals refine da_done (by kernel_rfl) ?_
    repeat' (first
      | refine thru_seq_next ?_
      | refine wp_retA ?_
      | refine at_ret (res2 rfl rfl rfl) ?_
      | fail)
    exact ret_ inferInstance (by rw [e.1, e.2]; simp only [Int.toNat_natCast])
end
end Go.Proofs.YthbodgnoadlbcaaDoor.Asl
