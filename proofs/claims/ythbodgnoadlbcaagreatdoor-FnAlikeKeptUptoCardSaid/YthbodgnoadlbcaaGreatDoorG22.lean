/- Several texts in one. -/
import Derived.Test.YthbodgnoadlbcaaGreatDoorG3
import Derived.Test.YthbodgnoadlbcaaGreatDoorGG
import Derived.Test.YthbodgnoadlbcaaGreatDoorPP
/- Where a number stands in a row; the reference's sort. -/
namespace Go.Proofs.YthbodgnoadlbcaaGreatDoor.Asl
open Go.RowKit Go.Proofs.YthbodgnoadlbcaaGreatDoorW.PrintLast
set_option linter.unusedVariables false
set_option linter.unusedSimpArgs false
attribute [local irreducible] WP WL andThen inBlock noGoto atEnd ACall DA DL PO Hold
set_option maxHeartbeats 4000000
set_option synthInstance.maxHeartbeats 400000
set_option synthInstance.maxSize 10000

def insAll (l : List Mv) (k : Nat) : List Mv := (l.take k).foldl (fun out m => insM m out) []
theorem insAll_succ {l : List Mv} {k : Nat} (h : k < l.length) : insAll l (k + 1) = insM (l.getD k (0, 0)) (insAll l k) := by
  unfold insAll
  rw [take_succ_getD h (d := (0, 0)), List.foldl_append]; rfl
theorem insAll_all (l : List Mv) : insAll l l.length = tidyL l := by unfold insAll tidyL; rw [List.take_length]
theorem insAll_srt (l : List Mv) (k : Nat) : Srt (insAll l k) := (foldl_insM (l.take k) [] List.Pairwise.nil).1
theorem insM_at {m : Mv} {l : List Mv} {k : Nat} (hk : k ≤ l.length) (h1 : k < l.length → mlt m (l.getD k (0, 0)) = true) (h2 : 0 < k → mlt m (l.getD (k - 1) (0, 0)) = false) (hs : Srt l) :
    insM m l = if 0 < k ∧ l.getD (k - 1) (0, 0) = m then l else l.take k ++ m :: l.drop k := by
  split
  · rename_i h
    refine srt_unique (srt_insM hs) hs fun y => ?_
    rw [mem_insM]
    constructor
    · rintro (rfl | h3)
      · rw [← h.2, getD_lt (by omega)]; exact List.getElem_mem _
      · exact h3
    · exact .inr
  · rename_i h
    have hall : (l.take k ++ l.drop k).Pairwise fun a b => mlt a b = true := by rw [List.take_append_drop]; exact hs
    obtain ⟨p1, p2, p3⟩ := List.pairwise_append.mp hall
    have hlow : ∀ a ∈ l.take k, mlt a m = true := by
      intro a ha
      obtain ⟨j, hj, rfl⟩ := List.getElem_of_mem ha
      rw [List.length_take] at hj
      rw [List.getElem_take]
      have hj0 : j < k := by omega
      have hlast : mlt (l.getD (k - 1) (0, 0)) m = true := by
        rcases mlt_tri (l.getD (k - 1) (0, 0)) m with q | q | q
        · exact q
        · exact absurd ⟨by omega, q⟩ h
        · rw [h2 (by omega)] at q; cases q
      rw [getD_lt (by omega)] at hlast
      rcases Nat.lt_or_ge j (k - 1) with q | q
      · exact mlt_trans (List.pairwise_iff_getElem.mp hs j (k - 1) (by omega) (by omega) q) hlast
      · obtain rfl : j = k - 1 := by omega
        exact hlast
    have hhigh : ∀ b ∈ l.drop k, mlt m b = true := by
      intro b hb
      obtain ⟨j, hj, rfl⟩ := List.getElem_of_mem hb
      rw [List.length_drop] at hj
      rw [List.getElem_drop]
      have hk1 := h1 (by omega)
      rw [getD_lt (by omega)] at hk1
      rcases Nat.eq_zero_or_pos j with q | q
      · subst q; exact hk1
      · exact mlt_trans hk1 (List.pairwise_iff_getElem.mp hs k (k + j) (by omega) (by omega) (by omega))
    refine srt_unique (srt_insM hs) (List.pairwise_append.mpr ⟨p1, List.pairwise_cons.mpr ⟨hhigh, p2⟩, fun a ha b hb => ?_⟩) fun y => ?_
    · rcases List.mem_cons.mp hb with rfl | hb
      · exact hlow a ha
      · exact p3 a ha b hb
    · rw [mem_insM, List.mem_append, List.mem_cons]
      conv => lhs; rw [← List.take_append_drop k l, List.mem_append]
      constructor
      · rintro (h | h | h) <;> simp [h]
      · rintro (h | h | h) <;> simp [h]
end Go.Proofs.YthbodgnoadlbcaaGreatDoor.Asl

/- The reference's moves in order. -/
namespace Go.Proofs.YthbodgnoadlbcaaGreatDoor.Asl
open Go.RowKit Go.Proofs.YthbodgnoadlbcaaGreatDoorW.PrintLast
set_option linter.unusedVariables false
set_option linter.unusedSimpArgs false
theorem hold_less {E : Env} {c : Code} {Q : Exit → Slots → Store → Prop} {S : Slots} {σ : Store} (S₀ : Slots) (h : Hold (WP E c Q S₀ σ)) (hs : Sub S₀ S) : Hold (WP E c Q S σ) :=
  fun a w ρ hc => h a w ρ (hc.less hs)
attribute [local irreducible] WP WL andThen inBlock noGoto atEnd ACall DA DL PO Hold
set_option maxHeartbeats 4000000
set_option synthInstance.maxHeartbeats 400000
set_option synthInstance.maxSize 10000
theorem insAll_len {l : List Mv} : ∀ {k : Nat}, k ≤ l.length → (insAll l k).length ≤ k
  | 0, _ => by simp [insAll]
  | k + 1, h => by
    rw [insAll_succ (by omega)]
    have ih := insAll_len (l := l) (k := k) (by omega)
    have : ∀ (m : Mv) (r : List Mv), (insM m r).length ≤ r.length + 1 := by
      intro m r
      induction r with
      | nil => simp [insM]
      | cons x r ih => unfold insM; split <;> (try split) <;> simp <;> omega
    have := this (l.getD k (0, 0)) (insAll l k)
    omega
section
variable {base : Nat}
theorem c_l3Sorted (σ : Store) (s : AV) {l : List Mv} [hs : RW σ s l] (hlim : l.length < 4294967296) : ACall Tryz.prog base F_spec_l3Sorted [s] σ (fun _ => False) (RetOW σ (tidyL l)) := by
  have hb := hs.bound
  have := hs.one
  refine acall1 fun_spec_l3Sorted rfl tmps_spec_l3Sorted rfl fun N B w₀ ρ₀ => ?_
  repeat' (first
    | (refine wc_row0 (α := Mv) inI inI rfl rfl (by decide) rfl ?_; intro _ _ _ _ _)
    | refine wp_seqA ?_
    | refine wp_region_seq ?_
    | refine thru_seq_next ?_
    | refine wp_blockA ?_
    | refine wl_nil ?_
    | refine wl_pop rfl (po_assign rfl) ?_
    | fail)
  rename_i i1 σ1 g1 n1 h1
  have hw1 : OW σ σ1 (.sl i1 0 0) ([] : List Mv) := ow_of_has h1 n1.le rfl (by decide)
  refine wc_loop [(0, _)] (fun x : Nat × AV => [(3, x.2), (4, I x.1)]) (fun x σ' => x.1 ≤ l.length ∧ LeS σ σ' ∧ x.2 ≠ nilS ∧ OW σ σ' x.2 (insAll l x.1)) (fun x => l.length - x.1) (0, .sl i1 0 0) ⟨Nat.zero_le _, inI, (by intro h; cases h), by simpa [insAll] using hw1⟩ (by repeat' (first | exact sub_nil | refine sub_cons rfl ?_ | refine sub_int rfl (by first | rfl | omega | (push_cast; omega) | simp) ?_ | refine sub_eq rfl (by assumption) ?_)) ?_
  rintro ⟨k, v⟩ σ2 ⟨hk, hle, hvn, how⟩
  dsimp only at hk hvn how ⊢
  have := hle.grow
  have := how.one
  have hil := insAll_len hk
  have hsrt := insAll_srt l k
  repeat' (first
    | refine wc_hold 2 ?_
    | refine wl_pop rfl (pc_lenRow rfl inI inI) ?_
    | refine wp_seqA ?_
    | refine wp_region_seq ?_
    | refine thru_seq_next ?_
    | refine thru_seq ?_
    | refine exit_here ?_
    | refine wp_skipA ?_
    | refine wp_retA ?_
    | refine wp_exitA ?_
    | refine wp_blockA ?_
    | refine wl_nil ?_
    | refine wl_pop rfl (po_move rfl) ?_
    | refine wl_pop rfl (po_assign rfl) ?_
    | refine wl_pop rfl (po_binOp rfl rfl rfl) ?_
    | refine wp_condP rfl (fun _ => ?_) (fun _ => ?_)
    | refine at_ret (res1 rfl rfl) ?_
    | fail)
  rotate_left
  · obtain rfl : k = l.length := by omega
    exact ret_ow how instLeRefl inI (insAll_all l)
  rename_i hkl
  have hk' : k < l.length := by omega
  have hsucc := insAll_succ hk'
  have ek : ((k : Nat) : Int).toNat = k := Int.toNat_natCast k
  generalize hO : insAll l k = out at *
  generalize hM : l.getD k (0, 0) = m at *
  refine wc_cut (ι := Nat) [(0, s), (3, v), (4, I (k : Int))] (fun q : Nat => [(5, I q)]) (fun q σ' => q ≤ out.length ∧ (q < out.length → mlt m (out.getD q (0, 0)) = true) ∧ (0 < q → mlt m (out.getD (q - 1) (0, 0)) = false) ∧ LeS σ2 σ') ?_ ?_
  · repeat' (first
      | refine wp_blockA ?_
      | fail)
    refine wc_loop [(0, _), (3, _), (4, _)] (fun q : Nat => [(5, I q)]) (fun q σ' => q ≤ out.length ∧ (q < out.length → mlt m (out.getD q (0, 0)) = true) ∧ LeS σ2 σ') (fun q => q) out.length ⟨Nat.le_refl _, fun h => absurd h (Nat.lt_irrefl _), inI⟩ (by repeat' (first | exact sub_nil | refine sub_cons rfl ?_ | refine sub_int rfl (by first | rfl | omega | (push_cast; omega) | simp) ?_ | refine sub_eq rfl (by assumption) ?_)) ?_
    rintro q σ3 ⟨hq, hql, hle3⟩
    have := hle3.grow
    repeat' (first
      | refine wp_seqA ?_
      | fail)
    refine wc_drawn [] mixed_ rfl ?_
    all_goals refine da_takeC 0 rfl rfl (by kernel_rfl) (by first | exact po_move rfl | fail) ?_
    all_goals refine da_takeC 1 rfl rfl (by kernel_rfl) (by first | exact po_binOp rfl rfl rfl | fail) ?_
    all_goals refine da_takeC 2 rfl rfl (by kernel_rfl) (by first | exact po_move rfl | fail) ?_
    all_goals (first | refine da_onC 3 rfl rfl rfl rfl rfl (by kernel_rfl) (by first | exact po_move rfl | fail) ?_ | refine da_offC 3 rfl rfl rfl rfl rfl rfl (by kernel_rfl) ?_ | refine da_offU 3 rfl rfl rfl rfl rfl (by kernel_rfl) ?_ | ((first | refine da_caseP (t := 18) rfl (fun _ => ?_) (fun _ => ?_) | refine da_caseNP (t := 18) rfl (fun _ => ?_) (fun _ => ?_) | refine da_caseEq (t := 18) rfl (fun _ => ?_) (fun _ => ?_) | refine da_caseNe (t := 18) rfl (fun _ => ?_) (fun _ => ?_) | refine da_caseNB (t := 18) rfl (fun _ => ?_) (fun _ => ?_) | refine da_case (t := 18) rfl (fun _ => ?_) (fun _ => ?_)) <;> (first | refine da_onC 3 rfl rfl rfl rfl rfl (by kernel_rfl) (by first | exact po_move rfl | fail) ?_ | refine da_offC 3 rfl rfl rfl rfl rfl rfl (by kernel_rfl) ?_ | refine da_offU 3 rfl rfl rfl rfl rfl (by kernel_rfl) ?_)))
    all_goals (first | refine da_onC 4 rfl rfl rfl rfl rfl (by kernel_rfl) (by first | exact po_move rfl | fail) ?_ | refine da_offC 4 rfl rfl rfl rfl rfl rfl (by kernel_rfl) ?_ | refine da_offU 4 rfl rfl rfl rfl rfl (by kernel_rfl) ?_ | ((first | refine da_caseP (t := 18) rfl (fun _ => ?_) (fun _ => ?_) | refine da_caseNP (t := 18) rfl (fun _ => ?_) (fun _ => ?_) | refine da_caseEq (t := 18) rfl (fun _ => ?_) (fun _ => ?_) | refine da_caseNe (t := 18) rfl (fun _ => ?_) (fun _ => ?_) | refine da_caseNB (t := 18) rfl (fun _ => ?_) (fun _ => ?_) | refine da_case (t := 18) rfl (fun _ => ?_) (fun _ => ?_)) <;> (first | refine da_onC 4 rfl rfl rfl rfl rfl (by kernel_rfl) (by first | exact po_move rfl | fail) ?_ | refine da_offC 4 rfl rfl rfl rfl rfl rfl (by kernel_rfl) ?_ | refine da_offU 4 rfl rfl rfl rfl rfl (by kernel_rfl) ?_)))
    all_goals (first | refine da_onC 5 rfl rfl rfl rfl rfl (by kernel_rfl) (by first | exact pc_indexRowZ rfl rfl inI inI inI (by omega) (by omega) | fail) ?_ | refine da_offC 5 rfl rfl rfl rfl rfl rfl (by kernel_rfl) ?_ | refine da_offU 5 rfl rfl rfl rfl rfl (by kernel_rfl) ?_ | ((first | refine da_caseP (t := 18) rfl (fun _ => ?_) (fun _ => ?_) | refine da_caseNP (t := 18) rfl (fun _ => ?_) (fun _ => ?_) | refine da_caseEq (t := 18) rfl (fun _ => ?_) (fun _ => ?_) | refine da_caseNe (t := 18) rfl (fun _ => ?_) (fun _ => ?_) | refine da_caseNB (t := 18) rfl (fun _ => ?_) (fun _ => ?_) | refine da_case (t := 18) rfl (fun _ => ?_) (fun _ => ?_)) <;> (first | refine da_onC 5 rfl rfl rfl rfl rfl (by kernel_rfl) (by first | exact pc_indexRowZ rfl rfl inI inI inI (by omega) (by omega) | fail) ?_ | refine da_offC 5 rfl rfl rfl rfl rfl rfl (by kernel_rfl) ?_ | refine da_offU 5 rfl rfl rfl rfl rfl (by kernel_rfl) ?_)))
    all_goals (first | refine da_onC 6 rfl rfl rfl rfl rfl (by kernel_rfl) (by first | exact pc_ldMv rfl inI inI (by omega) inI | fail) ?_ | refine da_offC 6 rfl rfl rfl rfl rfl rfl (by kernel_rfl) ?_ | refine da_offU 6 rfl rfl rfl rfl rfl (by kernel_rfl) ?_ | ((first | refine da_caseP (t := 18) rfl (fun _ => ?_) (fun _ => ?_) | refine da_caseNP (t := 18) rfl (fun _ => ?_) (fun _ => ?_) | refine da_caseEq (t := 18) rfl (fun _ => ?_) (fun _ => ?_) | refine da_caseNe (t := 18) rfl (fun _ => ?_) (fun _ => ?_) | refine da_caseNB (t := 18) rfl (fun _ => ?_) (fun _ => ?_) | refine da_case (t := 18) rfl (fun _ => ?_) (fun _ => ?_)) <;> (first | refine da_onC 6 rfl rfl rfl rfl rfl (by kernel_rfl) (by first | exact pc_ldMv rfl inI inI (by omega) inI | fail) ?_ | refine da_offC 6 rfl rfl rfl rfl rfl rfl (by kernel_rfl) ?_ | refine da_offU 6 rfl rfl rfl rfl rfl (by kernel_rfl) ?_)))
    all_goals (first | refine da_onC 7 rfl rfl rfl rfl rfl (by kernel_rfl) (by first | exact po_move rfl | fail) ?_ | refine da_offC 7 rfl rfl rfl rfl rfl rfl (by kernel_rfl) ?_ | refine da_offU 7 rfl rfl rfl rfl rfl (by kernel_rfl) ?_ | ((first | refine da_caseP (t := 18) rfl (fun _ => ?_) (fun _ => ?_) | refine da_caseNP (t := 18) rfl (fun _ => ?_) (fun _ => ?_) | refine da_caseEq (t := 18) rfl (fun _ => ?_) (fun _ => ?_) | refine da_caseNe (t := 18) rfl (fun _ => ?_) (fun _ => ?_) | refine da_caseNB (t := 18) rfl (fun _ => ?_) (fun _ => ?_) | refine da_case (t := 18) rfl (fun _ => ?_) (fun _ => ?_)) <;> (first | refine da_onC 7 rfl rfl rfl rfl rfl (by kernel_rfl) (by first | exact po_move rfl | fail) ?_ | refine da_offC 7 rfl rfl rfl rfl rfl rfl (by kernel_rfl) ?_ | refine da_offU 7 rfl rfl rfl rfl rfl (by kernel_rfl) ?_)))
    all_goals (first | refine da_onC 8 rfl rfl rfl rfl rfl (by kernel_rfl) (by first | exact po_move rfl | fail) ?_ | refine da_offC 8 rfl rfl rfl rfl rfl rfl (by kernel_rfl) ?_ | refine da_offU 8 rfl rfl rfl rfl rfl (by kernel_rfl) ?_ | ((first | refine da_caseP (t := 18) rfl (fun _ => ?_) (fun _ => ?_) | refine da_caseNP (t := 18) rfl (fun _ => ?_) (fun _ => ?_) | refine da_caseEq (t := 18) rfl (fun _ => ?_) (fun _ => ?_) | refine da_caseNe (t := 18) rfl (fun _ => ?_) (fun _ => ?_) | refine da_caseNB (t := 18) rfl (fun _ => ?_) (fun _ => ?_) | refine da_case (t := 18) rfl (fun _ => ?_) (fun _ => ?_)) <;> (first | refine da_onC 8 rfl rfl rfl rfl rfl (by kernel_rfl) (by first | exact po_move rfl | fail) ?_ | refine da_offC 8 rfl rfl rfl rfl rfl rfl (by kernel_rfl) ?_ | refine da_offU 8 rfl rfl rfl rfl rfl (by kernel_rfl) ?_)))
    all_goals (first | refine da_onC 9 rfl rfl rfl rfl rfl (by kernel_rfl) (by first | exact pc_sub rfl rfl (by omega) (by omega) | fail) ?_ | refine da_offC 9 rfl rfl rfl rfl rfl rfl (by kernel_rfl) ?_ | refine da_offU 9 rfl rfl rfl rfl rfl (by kernel_rfl) ?_ | ((first | refine da_caseP (t := 18) rfl (fun _ => ?_) (fun _ => ?_) | refine da_caseNP (t := 18) rfl (fun _ => ?_) (fun _ => ?_) | refine da_caseEq (t := 18) rfl (fun _ => ?_) (fun _ => ?_) | refine da_caseNe (t := 18) rfl (fun _ => ?_) (fun _ => ?_) | refine da_caseNB (t := 18) rfl (fun _ => ?_) (fun _ => ?_) | refine da_case (t := 18) rfl (fun _ => ?_) (fun _ => ?_)) <;> (first | refine da_onC 9 rfl rfl rfl rfl rfl (by kernel_rfl) (by first | exact pc_sub rfl rfl (by omega) (by omega) | fail) ?_ | refine da_offC 9 rfl rfl rfl rfl rfl rfl (by kernel_rfl) ?_ | refine da_offU 9 rfl rfl rfl rfl rfl (by kernel_rfl) ?_)))
    all_goals (first | refine da_onC 10 rfl rfl rfl rfl rfl (by kernel_rfl) (by first | exact pc_indexRowZ rfl rfl inI inI inI (by omega) (by omega) | fail) ?_ | refine da_offC 10 rfl rfl rfl rfl rfl rfl (by kernel_rfl) ?_ | refine da_offU 10 rfl rfl rfl rfl rfl (by kernel_rfl) ?_ | ((first | refine da_caseP (t := 18) rfl (fun _ => ?_) (fun _ => ?_) | refine da_caseNP (t := 18) rfl (fun _ => ?_) (fun _ => ?_) | refine da_caseEq (t := 18) rfl (fun _ => ?_) (fun _ => ?_) | refine da_caseNe (t := 18) rfl (fun _ => ?_) (fun _ => ?_) | refine da_caseNB (t := 18) rfl (fun _ => ?_) (fun _ => ?_) | refine da_case (t := 18) rfl (fun _ => ?_) (fun _ => ?_)) <;> (first | refine da_onC 10 rfl rfl rfl rfl rfl (by kernel_rfl) (by first | exact pc_indexRowZ rfl rfl inI inI inI (by omega) (by omega) | fail) ?_ | refine da_offC 10 rfl rfl rfl rfl rfl rfl (by kernel_rfl) ?_ | refine da_offU 10 rfl rfl rfl rfl rfl (by kernel_rfl) ?_)))
    all_goals (first | refine da_onC 11 rfl rfl rfl rfl rfl (by kernel_rfl) (by first | exact pc_ldMv rfl inI inI (by omega) inI | fail) ?_ | refine da_offC 11 rfl rfl rfl rfl rfl rfl (by kernel_rfl) ?_ | refine da_offU 11 rfl rfl rfl rfl rfl (by kernel_rfl) ?_ | ((first | refine da_caseP (t := 18) rfl (fun _ => ?_) (fun _ => ?_) | refine da_caseNP (t := 18) rfl (fun _ => ?_) (fun _ => ?_) | refine da_caseEq (t := 18) rfl (fun _ => ?_) (fun _ => ?_) | refine da_caseNe (t := 18) rfl (fun _ => ?_) (fun _ => ?_) | refine da_caseNB (t := 18) rfl (fun _ => ?_) (fun _ => ?_) | refine da_case (t := 18) rfl (fun _ => ?_) (fun _ => ?_)) <;> (first | refine da_onC 11 rfl rfl rfl rfl rfl (by kernel_rfl) (by first | exact pc_ldMv rfl inI inI (by omega) inI | fail) ?_ | refine da_offC 11 rfl rfl rfl rfl rfl rfl (by kernel_rfl) ?_ | refine da_offU 11 rfl rfl rfl rfl rfl (by kernel_rfl) ?_)))
    all_goals (first | refine da_offC 12 rfl rfl rfl rfl rfl rfl (by kernel_rfl) ?_ | refine da_offU 12 rfl rfl rfl rfl rfl (by kernel_rfl) ?_ | (refine da_one 12 rfl (by kernel_rfl) (fun _ _ _ _ => ?_); (repeat' (first | (refine wc_callR rfl inI rfl (c_l3Less _ _ _ _ _) rfl ?_; intro _ _) | refine wc_guardT_true rfl rfl rfl ?_ | fail)); all_goals (first | refine wl_nil ⟨rfl, (by first | exact LeS.len inI | exact App.len (by assumption)), ?_⟩ | trace_state)) | ((first | refine da_caseP (t := 18) rfl (fun _ => ?_) (fun _ => ?_) | refine da_caseNP (t := 18) rfl (fun _ => ?_) (fun _ => ?_) | refine da_caseEq (t := 18) rfl (fun _ => ?_) (fun _ => ?_) | refine da_caseNe (t := 18) rfl (fun _ => ?_) (fun _ => ?_) | refine da_caseNB (t := 18) rfl (fun _ => ?_) (fun _ => ?_) | refine da_case (t := 18) rfl (fun _ => ?_) (fun _ => ?_)) <;> (first | refine da_offC 12 rfl rfl rfl rfl rfl rfl (by kernel_rfl) ?_ | refine da_offU 12 rfl rfl rfl rfl rfl (by kernel_rfl) ?_ | (refine da_one 12 rfl (by kernel_rfl) (fun _ _ _ _ => ?_); (repeat' (first | (refine wc_callR rfl inI rfl (c_l3Less _ _ _ _ _) rfl ?_; intro _ _) | refine wc_guardT_true rfl rfl rfl ?_ | fail)); all_goals (first | refine wl_nil ⟨rfl, (by first | exact LeS.len inI | exact App.len (by assumption)), ?_⟩ | trace_state)))))
    all_goals refine da_takeC 13 rfl rfl (by kernel_rfl) (by first | exact po_pick rfl rfl | fail) ?_
    all_goals refine da_done (by kernel_rfl) ?_
    · have eq : ((q : Nat) : Int) > 0 → ((q : Int) - 1).toNat = q - 1 := fun h => by omega
      repeat' (first
        | refine wp_region_seq ?_
        | refine thru_seq_next ?_
        | refine thru_seq ?_
        | refine thru_block_next ?_
        | refine exit_here ?_
        | refine wp_skipA ?_
        | refine wp_exitA ?_
        | refine wp_blockA ?_
        | refine wl_nil ?_
        | refine wl_pop rfl (po_move rfl) ?_
        | refine wl_pop rfl (po_assign rfl) ?_
        | refine wl_pop rfl (pc_sub rfl rfl (by omega) (by omega)) ?_
        | refine wp_condP rfl (fun _ => ?_) (fun _ => ?_)
        | fail)
      · rename_i h0 _ _ _ _ σ4 g4 h1
        rw [ek, eq h0, hM] at h1
        exact ⟨q - 1, by omega, ⟨by omega, fun _ => mlt_iff.mpr h1, inI⟩, (by repeat' (first | exact sub_nil | refine sub_cons rfl ?_ | refine sub_int rfl (by first | rfl | omega | (push_cast; omega) | simp) ?_ | refine sub_eq rfl (by assumption) ?_))⟩
      · rename_i h0 _ _ _ _ σ4 g4 h1
        rw [ek, eq h0, hM] at h1
        exact ⟨q, ⟨hq, hql, fun _ => by rw [← Bool.not_eq_true, mlt_iff]; exact h1, inI⟩, (by repeat' (first | exact sub_nil | refine sub_cons rfl ?_ | refine sub_int rfl (by first | rfl | omega | (push_cast; omega) | simp) ?_ | refine sub_eq rfl (by assumption) ?_))⟩
    · repeat' (first
        | refine thru_seq_next ?_
        | refine thru_seq ?_
        | refine exit_here ?_
        | refine wp_exitA ?_
        | refine wp_condF rfl ?_
        | fail)
      exact ⟨q, ⟨hq, hql, fun h => by omega, inI⟩, (by repeat' (first | exact sub_nil | refine sub_cons rfl ?_ | refine sub_int rfl (by first | rfl | omega | (push_cast; omega) | simp) ?_ | refine sub_eq rfl (by assumption) ?_))⟩
  rintro q σ3 ⟨hq, hql, hqg, hle3⟩
  have := hle3.grow
  have hins := insM_at hq hql hqg hsrt
  have eq : (q : Int) > 0 → ((q : Int) - 1).toNat = q - 1 := fun h => by omega
  repeat' (first
    | refine wp_seqA ?_
    | fail)
  refine wc_drawn [] mixed_ rfl ?_
  all_goals refine da_takeC 0 rfl rfl (by kernel_rfl) (by first | exact po_move rfl | fail) ?_
  all_goals refine da_takeC 1 rfl rfl (by kernel_rfl) (by first | exact po_binOp rfl rfl rfl | fail) ?_
  all_goals refine da_takeC 2 rfl rfl (by kernel_rfl) (by first | exact po_move rfl | fail) ?_
  all_goals (first | refine da_onC 3 rfl rfl rfl rfl rfl (by kernel_rfl) (by first | exact po_move rfl | fail) ?_ | refine da_offC 3 rfl rfl rfl rfl rfl rfl (by kernel_rfl) ?_ | refine da_offU 3 rfl rfl rfl rfl rfl (by kernel_rfl) ?_ | ((first | refine da_caseP (t := 34) rfl (fun _ => ?_) (fun _ => ?_) | refine da_caseNP (t := 34) rfl (fun _ => ?_) (fun _ => ?_) | refine da_caseEq (t := 34) rfl (fun _ => ?_) (fun _ => ?_) | refine da_caseNe (t := 34) rfl (fun _ => ?_) (fun _ => ?_) | refine da_caseNB (t := 34) rfl (fun _ => ?_) (fun _ => ?_) | refine da_case (t := 34) rfl (fun _ => ?_) (fun _ => ?_)) <;> (first | refine da_onC 3 rfl rfl rfl rfl rfl (by kernel_rfl) (by first | exact po_move rfl | fail) ?_ | refine da_offC 3 rfl rfl rfl rfl rfl rfl (by kernel_rfl) ?_ | refine da_offU 3 rfl rfl rfl rfl rfl (by kernel_rfl) ?_)))
  all_goals (first | refine da_onC 4 rfl rfl rfl rfl rfl (by kernel_rfl) (by first | exact po_move rfl | fail) ?_ | refine da_offC 4 rfl rfl rfl rfl rfl rfl (by kernel_rfl) ?_ | refine da_offU 4 rfl rfl rfl rfl rfl (by kernel_rfl) ?_ | ((first | refine da_caseP (t := 34) rfl (fun _ => ?_) (fun _ => ?_) | refine da_caseNP (t := 34) rfl (fun _ => ?_) (fun _ => ?_) | refine da_caseEq (t := 34) rfl (fun _ => ?_) (fun _ => ?_) | refine da_caseNe (t := 34) rfl (fun _ => ?_) (fun _ => ?_) | refine da_caseNB (t := 34) rfl (fun _ => ?_) (fun _ => ?_) | refine da_case (t := 34) rfl (fun _ => ?_) (fun _ => ?_)) <;> (first | refine da_onC 4 rfl rfl rfl rfl rfl (by kernel_rfl) (by first | exact po_move rfl | fail) ?_ | refine da_offC 4 rfl rfl rfl rfl rfl rfl (by kernel_rfl) ?_ | refine da_offU 4 rfl rfl rfl rfl rfl (by kernel_rfl) ?_)))
  all_goals (first | refine da_onC 5 rfl rfl rfl rfl rfl (by kernel_rfl) (by first | exact pc_sub rfl rfl (by omega) (by omega) | fail) ?_ | refine da_offC 5 rfl rfl rfl rfl rfl rfl (by kernel_rfl) ?_ | refine da_offU 5 rfl rfl rfl rfl rfl (by kernel_rfl) ?_ | ((first | refine da_caseP (t := 34) rfl (fun _ => ?_) (fun _ => ?_) | refine da_caseNP (t := 34) rfl (fun _ => ?_) (fun _ => ?_) | refine da_caseEq (t := 34) rfl (fun _ => ?_) (fun _ => ?_) | refine da_caseNe (t := 34) rfl (fun _ => ?_) (fun _ => ?_) | refine da_caseNB (t := 34) rfl (fun _ => ?_) (fun _ => ?_) | refine da_case (t := 34) rfl (fun _ => ?_) (fun _ => ?_)) <;> (first | refine da_onC 5 rfl rfl rfl rfl rfl (by kernel_rfl) (by first | exact pc_sub rfl rfl (by omega) (by omega) | fail) ?_ | refine da_offC 5 rfl rfl rfl rfl rfl rfl (by kernel_rfl) ?_ | refine da_offU 5 rfl rfl rfl rfl rfl (by kernel_rfl) ?_)))
  all_goals (first | refine da_onC 6 rfl rfl rfl rfl rfl (by kernel_rfl) (by first | exact pc_indexRowZ rfl rfl inI inI inI (by omega) (by omega) | fail) ?_ | refine da_offC 6 rfl rfl rfl rfl rfl rfl (by kernel_rfl) ?_ | refine da_offU 6 rfl rfl rfl rfl rfl (by kernel_rfl) ?_ | ((first | refine da_caseP (t := 34) rfl (fun _ => ?_) (fun _ => ?_) | refine da_caseNP (t := 34) rfl (fun _ => ?_) (fun _ => ?_) | refine da_caseEq (t := 34) rfl (fun _ => ?_) (fun _ => ?_) | refine da_caseNe (t := 34) rfl (fun _ => ?_) (fun _ => ?_) | refine da_caseNB (t := 34) rfl (fun _ => ?_) (fun _ => ?_) | refine da_case (t := 34) rfl (fun _ => ?_) (fun _ => ?_)) <;> (first | refine da_onC 6 rfl rfl rfl rfl rfl (by kernel_rfl) (by first | exact pc_indexRowZ rfl rfl inI inI inI (by omega) (by omega) | fail) ?_ | refine da_offC 6 rfl rfl rfl rfl rfl rfl (by kernel_rfl) ?_ | refine da_offU 6 rfl rfl rfl rfl rfl (by kernel_rfl) ?_)))
  all_goals (first | refine da_onC 7 rfl rfl rfl rfl rfl (by kernel_rfl) (by first | exact pc_ldMv rfl inI inI (by omega) inI | fail) ?_ | refine da_offC 7 rfl rfl rfl rfl rfl rfl (by kernel_rfl) ?_ | refine da_offU 7 rfl rfl rfl rfl rfl (by kernel_rfl) ?_ | ((first | refine da_caseP (t := 34) rfl (fun _ => ?_) (fun _ => ?_) | refine da_caseNP (t := 34) rfl (fun _ => ?_) (fun _ => ?_) | refine da_caseEq (t := 34) rfl (fun _ => ?_) (fun _ => ?_) | refine da_caseNe (t := 34) rfl (fun _ => ?_) (fun _ => ?_) | refine da_caseNB (t := 34) rfl (fun _ => ?_) (fun _ => ?_) | refine da_case (t := 34) rfl (fun _ => ?_) (fun _ => ?_)) <;> (first | refine da_onC 7 rfl rfl rfl rfl rfl (by kernel_rfl) (by first | exact pc_ldMv rfl inI inI (by omega) inI | fail) ?_ | refine da_offC 7 rfl rfl rfl rfl rfl rfl (by kernel_rfl) ?_ | refine da_offU 7 rfl rfl rfl rfl rfl (by kernel_rfl) ?_)))
  all_goals (first | refine da_onC 8 rfl rfl rfl rfl rfl (by kernel_rfl) (by first | exact po_move rfl | fail) ?_ | refine da_offC 8 rfl rfl rfl rfl rfl rfl (by kernel_rfl) ?_ | refine da_offU 8 rfl rfl rfl rfl rfl (by kernel_rfl) ?_ | ((first | refine da_caseP (t := 34) rfl (fun _ => ?_) (fun _ => ?_) | refine da_caseNP (t := 34) rfl (fun _ => ?_) (fun _ => ?_) | refine da_caseEq (t := 34) rfl (fun _ => ?_) (fun _ => ?_) | refine da_caseNe (t := 34) rfl (fun _ => ?_) (fun _ => ?_) | refine da_caseNB (t := 34) rfl (fun _ => ?_) (fun _ => ?_) | refine da_case (t := 34) rfl (fun _ => ?_) (fun _ => ?_)) <;> (first | refine da_onC 8 rfl rfl rfl rfl rfl (by kernel_rfl) (by first | exact po_move rfl | fail) ?_ | refine da_offC 8 rfl rfl rfl rfl rfl rfl (by kernel_rfl) ?_ | refine da_offU 8 rfl rfl rfl rfl rfl (by kernel_rfl) ?_)))
  all_goals (first | refine da_onC 9 rfl rfl rfl rfl rfl (by kernel_rfl) (by first | exact po_move rfl | fail) ?_ | refine da_offC 9 rfl rfl rfl rfl rfl rfl (by kernel_rfl) ?_ | refine da_offU 9 rfl rfl rfl rfl rfl (by kernel_rfl) ?_ | ((first | refine da_caseP (t := 34) rfl (fun _ => ?_) (fun _ => ?_) | refine da_caseNP (t := 34) rfl (fun _ => ?_) (fun _ => ?_) | refine da_caseEq (t := 34) rfl (fun _ => ?_) (fun _ => ?_) | refine da_caseNe (t := 34) rfl (fun _ => ?_) (fun _ => ?_) | refine da_caseNB (t := 34) rfl (fun _ => ?_) (fun _ => ?_) | refine da_case (t := 34) rfl (fun _ => ?_) (fun _ => ?_)) <;> (first | refine da_onC 9 rfl rfl rfl rfl rfl (by kernel_rfl) (by first | exact po_move rfl | fail) ?_ | refine da_offC 9 rfl rfl rfl rfl rfl rfl (by kernel_rfl) ?_ | refine da_offU 9 rfl rfl rfl rfl rfl (by kernel_rfl) ?_)))
  all_goals (first | refine da_onC 10 rfl rfl rfl rfl rfl (by kernel_rfl) (by first | exact pc_indexRowZ rfl rfl inI inI inI (by omega) (by omega) | fail) ?_ | refine da_offC 10 rfl rfl rfl rfl rfl rfl (by kernel_rfl) ?_ | refine da_offU 10 rfl rfl rfl rfl rfl (by kernel_rfl) ?_ | ((first | refine da_caseP (t := 34) rfl (fun _ => ?_) (fun _ => ?_) | refine da_caseNP (t := 34) rfl (fun _ => ?_) (fun _ => ?_) | refine da_caseEq (t := 34) rfl (fun _ => ?_) (fun _ => ?_) | refine da_caseNe (t := 34) rfl (fun _ => ?_) (fun _ => ?_) | refine da_caseNB (t := 34) rfl (fun _ => ?_) (fun _ => ?_) | refine da_case (t := 34) rfl (fun _ => ?_) (fun _ => ?_)) <;> (first | refine da_onC 10 rfl rfl rfl rfl rfl (by kernel_rfl) (by first | exact pc_indexRowZ rfl rfl inI inI inI (by omega) (by omega) | fail) ?_ | refine da_offC 10 rfl rfl rfl rfl rfl rfl (by kernel_rfl) ?_ | refine da_offU 10 rfl rfl rfl rfl rfl (by kernel_rfl) ?_)))
  all_goals (first | refine da_onC 11 rfl rfl rfl rfl rfl (by kernel_rfl) (by first | exact pc_ldMv rfl inI inI (by omega) inI | fail) ?_ | refine da_offC 11 rfl rfl rfl rfl rfl rfl (by kernel_rfl) ?_ | refine da_offU 11 rfl rfl rfl rfl rfl (by kernel_rfl) ?_ | ((first | refine da_caseP (t := 34) rfl (fun _ => ?_) (fun _ => ?_) | refine da_caseNP (t := 34) rfl (fun _ => ?_) (fun _ => ?_) | refine da_caseEq (t := 34) rfl (fun _ => ?_) (fun _ => ?_) | refine da_caseNe (t := 34) rfl (fun _ => ?_) (fun _ => ?_) | refine da_caseNB (t := 34) rfl (fun _ => ?_) (fun _ => ?_) | refine da_case (t := 34) rfl (fun _ => ?_) (fun _ => ?_)) <;> (first | refine da_onC 11 rfl rfl rfl rfl rfl (by kernel_rfl) (by first | exact pc_ldMv rfl inI inI (by omega) inI | fail) ?_ | refine da_offC 11 rfl rfl rfl rfl rfl rfl (by kernel_rfl) ?_ | refine da_offU 11 rfl rfl rfl rfl rfl (by kernel_rfl) ?_)))
  all_goals (first | refine da_onC 12 rfl rfl rfl rfl rfl (by kernel_rfl) (by first | exact pc_eqMv rfl rfl inI | fail) ?_ | refine da_offC 12 rfl rfl rfl rfl rfl rfl (by kernel_rfl) ?_ | refine da_offU 12 rfl rfl rfl rfl rfl (by kernel_rfl) ?_ | ((first | refine da_caseP (t := 34) rfl (fun _ => ?_) (fun _ => ?_) | refine da_caseNP (t := 34) rfl (fun _ => ?_) (fun _ => ?_) | refine da_caseEq (t := 34) rfl (fun _ => ?_) (fun _ => ?_) | refine da_caseNe (t := 34) rfl (fun _ => ?_) (fun _ => ?_) | refine da_caseNB (t := 34) rfl (fun _ => ?_) (fun _ => ?_) | refine da_case (t := 34) rfl (fun _ => ?_) (fun _ => ?_)) <;> (first | refine da_onC 12 rfl rfl rfl rfl rfl (by kernel_rfl) (by first | exact pc_eqMv rfl rfl inI | fail) ?_ | refine da_offC 12 rfl rfl rfl rfl rfl rfl (by kernel_rfl) ?_ | refine da_offU 12 rfl rfl rfl rfl rfl (by kernel_rfl) ?_)))
  all_goals refine da_takeC 13 rfl rfl (by kernel_rfl) (by first | exact po_pick rfl rfl | fail) ?_
  all_goals refine da_done (by kernel_rfl) ?_
  all_goals (
    repeat' (first
      | refine wc_holdR 9 ?_
      | refine wp_seqA ?_
      | refine wp_region_seq ?_
      | refine thru_seq_next ?_
      | refine thru_seq ?_
      | refine exit_here ?_
      | refine wp_skipA ?_
      | refine wp_exitA ?_
      | refine wl_nil ?_
      | refine wl_pop rfl (po_move rfl) ?_
      | refine wl_pop rfl (po_assign rfl) ?_
      | refine wl_pop rfl (pc_add rfl rfl (by omega) (by omega)) ?_
      | refine wp_condF rfl ?_
      | refine wp_condP rfl (fun _ => ?_) (fun _ => ?_)
      | fail)
    )
  · rename_i h0 h1
    rw [ek, eq h0, hM] at h1
    rw [if_pos ⟨by omega, Prod.ext h1.1 h1.2⟩] at hins
    rw [hins] at hsucc
    exact ⟨(k + 1, v), by dsimp only; omega, ⟨by dsimp only; omega, inI, hvn, by dsimp only; rw [hsucc]; infer_instance⟩, (by repeat' (first | exact sub_nil | refine sub_cons rfl ?_ | refine sub_int rfl (by first | rfl | omega | (push_cast; omega) | simp) ?_ | refine sub_eq rfl (by assumption) ?_))⟩
  all_goals (
    have hne : ¬ (0 < q ∧ out.getD (q - 1) (0, 0) = m) := by
      first
      | (intro h; omega)
      | (rename_i h0 h1
         rw [ek, eq h0, hM] at h1
         exact fun h => h1 ⟨by rw [h.2], by rw [h.2]⟩)
    refine hold_less [(0, s), (3, v), (4, I (k : Int)), (5, I (q : Int))] ?_ (by repeat' (first | exact sub_nil | refine sub_cons rfl ?_ | refine sub_int rfl (by first | rfl | omega | (push_cast; omega) | simp) ?_ | refine sub_eq rfl (by assumption) ?_))
    refine hold_go ?_
    rw [if_neg hne] at hins
    rw [hins] at hsucc
    have hwv : OW σ σ3 v out := inI
    have hl1 : (out ++ [((0, 0) : Mv)]).length = out.length + 1 := by simp
    repeat' (first
      | refine wl_pop rfl (pc_build0 (cs := [I 0, I 0]) inI inI rfl) ?_
      | (refine wc_oneMv rfl inI inI rfl (by decide) rfl ?_; intro _ _ _ _ _)
      | (refine wc_append1 (α := Mv) (σ₀ := σ) rfl rfl inI inI rfl (by decide) (by decide) inI inI (one_mv _ _) (by omega) (may_ge σ) (LeS.len inI) rfl ?_; intro _ _ _ _ _ _)
      | refine wl_pop rfl (pc_lenRow rfl inI inI) ?_
      | refine wp_seqA ?_
      | refine wp_region_seq ?_
      | refine thru_seq_next ?_
      | refine wp_blockA ?_
      | refine wl_nil ?_
      | refine wl_pop rfl (po_move rfl) ?_
      | refine wl_pop rfl (po_assign rfl) ?_
      | refine wl_pop rfl (pc_sub rfl rfl (by omega) (by omega)) ?_
      | fail)
    rename_i i4 σ4 g4 n4 h4 v5 σ5 happ mk5 how5 one5
    rcases how5.rep with ⟨h0, _⟩ | ⟨i, rfl, hi0, hi⟩
    · simp at h0
    rw [hl1]
    have hle5 : LeS σ σ5 := inI
    have hni : New σ i := ⟨hi0⟩
    refine wc_loop [(0, _), (3, _), (4, _), (5, _)] (fun x : Nat × List Mv => [(6, I x.1)]) (fun x σ' => q ≤ x.1 ∧ x.1 ≤ out.length ∧ x.2.length = out.length + 1 ∧ x.2.take x.1 = out.take x.1 ∧ x.2.drop (x.1 + 1) = out.drop x.1 ∧ LeS σ σ' ∧ Has σ' i (Row x.2)) (fun x => x.1) (out.length, out ++ [(0, 0)]) ⟨hq, Nat.le_refl _, hl1, by simp, by simp, hle5, hi⟩ (by repeat' (first | exact sub_nil | refine sub_cons rfl ?_ | refine sub_int rfl (by first | rfl | omega | (push_cast; omega) | simp) ?_ | refine sub_eq rfl (by assumption) ?_)) ?_
    rintro ⟨j, c⟩ σ6 ⟨hj1, hj2, hcl, hct, hcd, hle6, hh6⟩
    dsimp only at hj1 hj2 hcl hct hcd hh6 ⊢
    have := hle6.grow
    have hone : One (AV.sl i 0 (out.length + 1)) := inI
    repeat' (first
      | refine wl_pop rfl (pc_indexSlZ rfl rfl inI inI (by omega) (by omega)) ?_
      | (refine wc_storeEl (α := Mv) (u := (_, _)) rfl rfl inI inI rfl (one_mv _ _) (by omega) (.inr hi0) ?_; intro _ _)
      | refine wl_pop rfl (pc_ldMv rfl inI inI (by omega) inI) ?_
      | refine wl_pop rfl (pc_loMv rfl inI inI (by omega) inI) ?_
      | refine wl_pop rfl (pc_indexRow rfl rfl inI inI inI (by omega)) ?_
      | refine wp_seqA ?_
      | refine wp_region_seq ?_
      | refine thru_seq_next ?_
      | refine thru_seq ?_
      | refine thru_block_next ?_
      | refine exit_here ?_
      | refine wp_skipA ?_
      | refine wp_exitA ?_
      | refine wp_blockA ?_
      | refine wl_nil ?_
      | refine wl_pop rfl (po_move rfl) ?_
      | refine wl_pop rfl (po_assign rfl) ?_
      | refine wl_pop rfl (pc_add rfl rfl (by omega) (by omega)) ?_
      | refine wl_pop rfl (pc_sub rfl rfl (by omega) (by omega)) ?_
      | refine wl_pop rfl (po_binOp rfl rfl rfl) ?_
      | refine wp_condP rfl (fun _ => ?_) (fun _ => ?_)
      | fail)
    · rename_i hjq σ7 u7
      have h7 : Has σ7 i (Row (c.set ((j : Nat) : Int).toNat ((c.getD ((j : Int) - 1).toNat (0, 0)).1, (c.getD ((j : Int) - 1).toNat (0, 0)).2))) := instHasUpd (g := u7)
      have e1 : ((j : Nat) : Int).toNat = j := Int.toNat_natCast j
      have e2 : ((j : Int) - 1).toNat = j - 1 := by omega
      rw [e1, e2] at h7
      have hx : c.getD (j - 1) (0, 0) = out.getD (j - 1) (0, 0) := by
        have h := congrArg (fun r => r.getD (j - 1) ((0, 0) : Mv)) hct
        simp only [List.getD_eq_getElem?_getD, List.getElem?_take, if_pos (show j - 1 < j by omega)] at h ⊢
        exact h
      refine ⟨(j - 1, c.set j ((c.getD (j - 1) (0, 0)).1, (c.getD (j - 1) (0, 0)).2)), by dsimp only; omega, ⟨by dsimp only; omega, by dsimp only; omega, by simp [hcl], ?_, ?_, inI, h7⟩, (by repeat' (first | exact sub_nil | refine sub_cons rfl ?_ | refine sub_int rfl (by first | rfl | omega | (push_cast; omega) | simp) ?_ | refine sub_eq rfl (by assumption) ?_))⟩
      · dsimp only
        rw [List.take_set_of_le (by omega)]
        have h := congrArg (List.take (j - 1)) hct
        rw [List.take_take, List.take_take, Nat.min_eq_left (by omega)] at h
        exact h
      · dsimp only
        rw [show j - 1 + 1 = j by omega, List.drop_eq_getElem_cons (by simp; omega), List.drop_set_of_lt (by omega), hcd]
        conv => rhs; rw [List.drop_eq_getElem_cons (show j - 1 < out.length by omega), show j - 1 + 1 = j by omega]
        congr 1
        rw [List.getElem_set_self, ← getD_lt (d := ((0, 0) : Mv)) (show j - 1 < out.length by omega), ← hx]
    · rename_i hjq σ7 u7
      obtain rfl : j = q := by omega
      have h7 : Has σ7 i (Row (c.set ((j : Nat) : Int).toNat ((l.getD k (0, 0)).1, (l.getD k (0, 0)).2))) := instHasUpd (g := u7)
      rw [Int.toNat_natCast, hM] at h7
      have e : c.set j (m.1, m.2) = insAll l (k + 1) := by
        rw [hsucc, List.set_eq_take_append_cons_drop, if_pos (by omega), hct, hcd]
      rw [e] at h7
      have hl2 : (insAll l (k + 1)).length = out.length + 1 := by rw [← e, List.length_set, hcl]
      exact ⟨(k + 1, .sl i 0 (out.length + 1)), by dsimp only; omega, ⟨by dsimp only; omega, inI, (by intro h; cases h), ow_of_has h7 hi0 hl2 (by omega)⟩, (by repeat' (first | exact sub_nil | refine sub_cons rfl ?_ | refine sub_int rfl (by first | rfl | omega | (push_cast; omega) | simp) ?_ | refine sub_eq rfl (by assumption) ?_))⟩
    )
end
end Go.Proofs.YthbodgnoadlbcaaGreatDoor.Asl
