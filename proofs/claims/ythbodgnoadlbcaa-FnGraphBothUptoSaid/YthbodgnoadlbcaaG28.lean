/- Several texts in one. -/
import Derived.Test.YthbodgnoadlbcaaG8
import Derived.Test.YthbodgnoadlbcaaG22
import Derived.Test.YthbodgnoadlbcaaG9
import Derived.Test.YthbodgnoadlbcaaG6
import Derived.Test.YthbodgnoadlbcaaS2
import Derived.Test.YthbodgnoadlbcaaBB
import Derived.Test.YthbodgnoadlbcaaS6
/- Several texts in one. -/
/- The states to which one comes: the program, by a map. -/
namespace Go.Proofs.Ythbodgnoadlbcaa.Asl
open Go.RowKit Go.Proofs.YthbodgnoadlbcaaW.PrintLast
set_option linter.unusedVariables false
set_option linter.unusedSimpArgs false
attribute [local irreducible] WP WL andThen inBlock noGoto atEnd ACall DA DL PO Hold
set_option maxHeartbeats 4000000
set_option synthInstance.maxHeartbeats 400000
set_option synthInstance.maxSize 10000

/-- A map of the states that have been found. -/
def seenM (out : List Nat) : List (Int × AV) := out.map fun (x : Nat) => (((x : Nat) : Int), Bo true)
/-- While states are found. -/
structure FM (σ : Store) (i : Nat) (g : Gr) (a : Nat) (out : List Nat) (u : AV) (σ' : Store) : Prop where
  found : Found g a out
  le : LeS σ σ'
  ow : OW σ σ' u out
  seen : Has σ' i (MapOb (seenM out))
  ne : ∀ m, u ≠ .sl i 0 m

end Go.Proofs.Ythbodgnoadlbcaa.Asl

/- Several texts in one. -/
/- A graph's part: the reference. -/
namespace Go.Proofs.Ythbodgnoadlbcaa.Asl
open Go.RowKit Go.Proofs.YthbodgnoadlbcaaW.PrintLast
set_option linter.unusedVariables false
set_option linter.unusedSimpArgs false
attribute [local irreducible] WP WL andThen inBlock noGoto atEnd ACall DA DL PO Hold
set_option maxHeartbeats 4000000
set_option synthInstance.maxHeartbeats 400000
set_option synthInstance.maxSize 10000
/-- A state's moves in the part. -/
def partM (F : List Nat) (m : Mv) : Mv := (m.1, ((F.idxOf m.2.toNat : Nat) : Int))
end Go.Proofs.Ythbodgnoadlbcaa.Asl

/- Several texts in one. -/
/- A graph's part: the program. -/
namespace Go.Proofs.Ythbodgnoadlbcaa.Asl
open Go.RowKit Go.Proofs.YthbodgnoadlbcaaW.PrintLast
set_option linter.unusedVariables false
set_option linter.unusedSimpArgs false
attribute [local irreducible] WP WL andThen inBlock noGoto atEnd ACall DA DL DX PO Hold
set_option maxHeartbeats 4000000
set_option synthInstance.maxHeartbeats 400000
set_option synthInstance.maxSize 10000
end Go.Proofs.Ythbodgnoadlbcaa.Asl

/- A graph folded: the program. -/
namespace Go.Proofs.Ythbodgnoadlbcaa.Asl
open Go.RowKit Go.Proofs.YthbodgnoadlbcaaW.PrintLast
set_option linter.unusedVariables false
set_option linter.unusedSimpArgs false
attribute [local irreducible] WP WL andThen inBlock noGoto atEnd ACall DA DL DX PO Hold
set_option maxHeartbeats 4000000
set_option synthInstance.maxHeartbeats 400000
set_option synthInstance.maxSize 10000
/-- A state's moves in the fold. -/
def foldM (c : List Nat) (m : Mv) : Mv := (m.1, (((reps c).idxOf (c.getD m.2.toNat 0) : Nat) : Int))
theorem foldG_eq (g : Gr) (c : List Nat) : foldG g c = (reps c).map fun s => tidyL ((g.getD s []).map (foldM c)) := rfl
/-- The least states below one. -/
def repsTo (c : List Nat) (k : Nat) : List Nat := (List.range k).filter fun s => decide (c.getD s 0 = s)
theorem repsTo_succ (c : List Nat) (k : Nat) : repsTo c (k + 1) = repsTo c k ++ if c.getD k 0 = k then [k] else [] := by
  simp only [repsTo, List.range_succ, List.filter_append]
  congr 1
  by_cases h : c.getD k 0 = k
  · rw [if_pos h, List.filter_cons, if_pos (by simpa using h)]; rfl
  · rw [if_neg h, List.filter_cons, if_neg (by simpa using h)]; rfl
theorem repsTo_len (c : List Nat) (k : Nat) : (repsTo c k).length ≤ k := by
  have := List.length_filter_le (fun s => decide (c.getD s 0 = s)) (List.range k)
  simpa [repsTo] using this
end Go.Proofs.Ythbodgnoadlbcaa.Asl

/- A graph folded: the reference. -/
namespace Go.Proofs.Ythbodgnoadlbcaa.Asl
open Go.RowKit Go.Proofs.YthbodgnoadlbcaaW.PrintLast
set_option linter.unusedVariables false
set_option linter.unusedSimpArgs false
attribute [local irreducible] WP WL andThen inBlock noGoto atEnd ACall DA DL PO Hold
set_option maxHeartbeats 4000000
set_option synthInstance.maxHeartbeats 400000
set_option synthInstance.maxSize 10000
theorem mem_repsTo {c : List Nat} {k s : Nat} : s ∈ repsTo c k ↔ s < k ∧ c.getD s 0 = s := by simp [repsTo]
theorem reps_take (c : List Nat) {k : Nat} (h : k ≤ c.length) : ∃ t, reps c = repsTo c k ++ t ∧ ∀ x ∈ t, k ≤ x := by
  refine ⟨((List.range (c.length - k)).map (k + ·)).filter fun s => decide (c.getD s 0 = s), ?_, ?_⟩
  · unfold reps repsTo
    rw [← List.filter_append]
    congr 1
    rw [← List.range_add]
    congr 1; omega
  · intro x hx
    obtain ⟨hx, _⟩ := List.mem_filter.mp hx
    obtain ⟨y, _, rfl⟩ := List.mem_map.mp hx
    omega
theorem idx_rep {c : List Nat} {k : Nat} (h : k < c.length) (hk : c.getD k 0 = k) : (reps c).idxOf k = (repsTo c k).length := by
  obtain ⟨t, e, ht⟩ := reps_take c (show k + 1 ≤ c.length from h)
  rw [repsTo_succ, if_pos hk] at e
  rw [e, List.append_assoc, List.idxOf_append, if_neg (fun h => by have := (mem_repsTo.mp h).1; omega)]
  simp
section
variable {base : Nat}
theorem c_l4Fold (σ : Store) (s v : AV) {ss : List AV} {g : Gr} {c : List Nat} [hs : RW σ s ss] [hg : RRs σ ss g] [hv : RW σ v c] (hok : GOk g) (hcl : c.length = g.length) (hcan : Canon c) (hlim : ∀ k, (g.getD k []).length < 4294967296) :
    ACall Try.prog base F_spec_l4Fold [.agg [s], v] σ (fun _ => False) (RetG σ (foldG g c)) := by
  have hb := hs.bound
  have := hs.one
  have := hv.one
  have hl := hg.len
  have h60 := hok.most
  refine acall2 fun_spec_l4Fold rfl tmps_spec_l4Fold rfl fun N B w₀ ρ₀ => ?_
  repeat' (first
    | (refine wc_makeRow (α := Nat) rfl rfl inferInstance inferInstance rfl rfl (by decide) (by omega) (by omega) rfl ?_; intro _ _ _ _ _)
    | refine wl_pop rfl (pc_lenRow rfl inferInstance inferInstance) ?_
    | refine wp_seqA ?_
    | refine wp_region_seq ?_
    | refine thru_seq_next ?_
    | refine wp_blockA ?_
    | refine wl_nil ?_
    | refine wl_pop rfl (po_move rfl) ?_
    | refine wl_pop rfl (po_assign rfl) ?_
    | (refine wc_boxA rfl inferInstance rfl ?_; intro _ _ _ _ _)
    | (refine wc_allocA (cs := [_]) inferInstance rfl inferInstance rfl ?_; intro _ _ _ _ _)
    | fail)
  rename_i i1 σ1 g1 n1 h1 i2 σ2 g2 n2 h2 i4 σ4 g4 n4 h4
  rw [foldG_eq]
  have hidx : ∀ x, x < c.length → c.getD x 0 < c.length := fun x hx => Nat.lt_of_le_of_lt (hcan.le x hx) hx
  refine wc_loop [(1, _), (2, _), (4, _), (5, _)] (fun x : Nat × List Nat => [(6, I (repsTo c x.1).length), (7, I x.1)]) (fun x σ' => x.1 ≤ c.length ∧ x.2.length = c.length ∧ (∀ j, j < x.1 → x.2.getD j 0 = (reps c).idxOf (c.getD j 0)) ∧ LeS σ2 σ' ∧ Has σ' i4 (Row x.2)) (fun x => c.length - x.1) (0, List.replicate c.length 0) ⟨Nat.zero_le _, by simp, fun j hj => by dsimp only at hj; omega, inferInstance, (inferInstance : Has σ4 i4 (Row (List.replicate c.length Enc.dflt)))⟩ (by repeat' (first | exact sub_nil | refine sub_cons rfl ?_ | refine sub_int rfl (by first | rfl | omega | (push_cast; omega) | simp) ?_ | refine sub_eq rfl (by assumption) ?_)) ?_
  rintro ⟨k, d⟩ σ5 ⟨hk, hdn, hdj, hle, hh⟩
  dsimp only at hk hdn hdj hh ⊢
  have := hle.grow
  have hik := hidx k
  have hrl := repsTo_len c k
  repeat' (first
    | (refine wc_stNat rfl rfl inferInstance inferInstance (by first | omega | (simp; omega)) (.inr (may_new _)) ?_; intro _ _)
    | refine wl_pop rfl (pc_ldNat rfl inferInstance inferInstance (by omega) inferInstance) ?_
    | refine wl_pop rfl (pc_loNat rfl inferInstance inferInstance (by omega) inferInstance) ?_
    | refine wl_pop rfl (pc_indexRow rfl rfl inferInstance inferInstance inferInstance (by omega)) ?_
    | refine wl_pop rfl (pc_lenRow rfl inferInstance inferInstance) ?_
    | refine wl_pop rfl (pc_build0 (cs := [_]) inferInstance inferInstance rfl) ?_
    | refine wp_seqA ?_
    | refine wp_region_seq ?_
    | refine thru_seq_next ?_
    | refine thru_seq ?_
    | refine thru_block_next ?_
    | refine exit_here ?_
    | refine wp_skipA ?_
    | refine wp_exitA ?_
    | refine wp_blockA ?_
    | refine wl_nil ?_
    | refine wl_pop rfl (po_move rfl) ?_
    | refine wl_pop rfl (po_assign rfl) ?_
    | refine wl_pop rfl (pc_add rfl rfl (by omega) (by omega)) ?_
    | refine wl_pop rfl (po_binOp rfl rfl rfl) ?_
    | refine wl_pop rfl (pc_indexAddr rfl rfl inferInstance inferInstance (by omega)) ?_
    | (refine wc_storeA rfl rfl inferInstance inferInstance rfl inferInstance (Nat.le_of_ble_eq_true rfl) (.inr (may_new _)) ?_; intro _ _)
    | (refine wc_allocA (cs := [_]) inferInstance rfl inferInstance rfl ?_; intro _ _ _ _ _)
    | refine wp_condP rfl (fun _ => ?_) (fun _ => ?_)
    | fail)
  · rename_i hkl σ6 u6 hkc σ7 u7
    have hk' : k < c.length := by omega
    have hkk : c.getD k 0 = k := by omega
    have hlen : (repsTo c (k + 1)).length = (repsTo c k).length + 1 := by rw [repsTo_succ, if_pos hkk]; simp
    have hi := idx_rep hk' hkk
    refine ⟨(k + 1, (d.set k (d.getD (c.getD k 0) 0)).set k (repsTo c k).length), by dsimp only; omega, ⟨by dsimp only; omega, by simp [hdn], fun j hj => ?_, inferInstance, instHasUpd (g := u7)⟩, (by dsimp only; rw [hlen]; exact (by repeat' (first | exact sub_nil | refine sub_cons rfl ?_ | refine sub_int rfl (by first | rfl | omega | (push_cast; omega) | simp) ?_ | refine sub_eq rfl (by assumption) ?_)))⟩
    dsimp only at hj ⊢
    by_cases e : j = k
    · subst e; rw [getD_set_eq (by simp; omega), hkk, hi]
    · rw [getD_set_ne (fun h => e h.symm), getD_set_ne (fun h => e h.symm)]; exact hdj j (by omega)
  · rename_i hkl σ6 u6 hkc
    have hk' : k < c.length := by omega
    have hkk : ¬ c.getD k 0 = k := by omega
    have hck := hcan.le k hk'
    have hci := hcan.idem k hk'
    have hlen : (repsTo c (k + 1)).length = (repsTo c k).length := by rw [repsTo_succ, if_neg hkk, List.append_nil]
    refine ⟨(k + 1, d.set k (d.getD (c.getD k 0) 0)), by dsimp only; omega, ⟨by dsimp only; omega, by simp [hdn], fun j hj => ?_, inferInstance, instHasUpd (g := u6)⟩, (by dsimp only; rw [hlen]; exact (by repeat' (first | exact sub_nil | refine sub_cons rfl ?_ | refine sub_int rfl (by first | rfl | omega | (push_cast; omega) | simp) ?_ | refine sub_eq rfl (by assumption) ?_)))⟩
    dsimp only at hj ⊢
    by_cases e : j = k
    · subst e; rw [getD_set_eq (by omega), hdj _ (by omega), hci]
    · rw [getD_set_ne (fun h => e h.symm)]; exact hdj j (by omega)
  rename_i hkl i8 σ7 g7 n7 h7 σb u8
  obtain rfl : k = c.length := by omega
  have hb8 : Has σb i8 ⟨.own, 1, [nilS], []⟩ := instHasUpd (g := u8)
  have hn8 : New σ5 i8 := n7
  have hle8 : LeS σ5 σb := inferInstance
  clear h7 hik hrl
  have hrd : RW σ5 (.sl i4 0 c.length) d := rw_of_has hh hdn (by omega)
  refine wc_loop [(1, _), (2, _), (4, _), (5, _), (8, _)] (fun x : Nat × AV => [(9, I x.1)]) (fun x σ' => x.1 ≤ c.length ∧ LeS σ5 σ' ∧ σb.length ≤ σ'.length ∧ Has σ' i8 ⟨.own, 1, [x.2], []⟩ ∧ ∃ us, OW σb σ' x.2 us ∧ ORs σb σ' us ((repsTo c x.1).map fun k => tidyL ((g.getD k []).map (foldM c)))) (fun x => c.length - x.1) (0, nilS) ⟨Nat.zero_le _, hle8, Nat.le_refl _, hb8, [], OW.nilS _ _, ORs.nil _ _⟩ (by repeat' (first | exact sub_nil | refine sub_cons rfl ?_ | refine sub_int rfl (by first | rfl | omega | (push_cast; omega) | simp) ?_ | refine sub_eq rfl (by assumption) ?_)) ?_
  rintro ⟨k, w⟩ σ9 ⟨hk9, hle9, hlen9, hi9, us, how, hor⟩
  dsimp only at hk9 hi9 how hor ⊢
  have := hle9.grow
  have hone := how.one
  have hrl := repsTo_len c k
  have hul : us.length = (repsTo c k).length := by have := hor.len; simpa using this
  repeat' (first
    | (refine wc_row0 (α := Mv) inferInstance inferInstance rfl rfl (by decide) rfl ?_; intro _ _ _ _ _)
    | refine wl_pop rfl (pc_ldNat rfl inferInstance inferInstance (by omega) inferInstance) ?_
    | refine wl_pop rfl (pc_indexRow rfl rfl inferInstance inferInstance inferInstance (by omega)) ?_
    | refine wl_pop rfl (pc_lenRow rfl inferInstance inferInstance) ?_
    | refine wc_loadn rfl inferInstance (at_has (cs := [_]) (.inl rfl) rfl rfl) rfl ?_
    | refine at_ret (res_cell rfl rfl inferInstance (at_has (cs := [_]) (.inl rfl) rfl rfl)) ?_
    | refine wp_seqA ?_
    | refine wp_region_seq ?_
    | refine thru_seq_next ?_
    | refine thru_seq ?_
    | refine exit_here ?_
    | refine wp_skipA ?_
    | refine wp_retA ?_
    | refine wp_exitA ?_
    | refine wp_blockA ?_
    | refine wl_nil ?_
    | refine wl_pop rfl (po_move rfl) ?_
    | refine wl_pop rfl (po_assign rfl) ?_
    | refine wl_pop rfl (pc_add rfl rfl (by omega) (by omega)) ?_
    | refine wl_pop rfl (po_binOp rfl rfl rfl) ?_
    | (refine wc_storeA rfl rfl inferInstance inferInstance rfl inferInstance (Nat.le_of_ble_eq_true rfl) (.inr (may_new _)) ?_; intro _ _)
    | refine wp_condP rfl (fun _ => ?_) (fun _ => ?_)
    | refine wp_condNP rfl (fun _ => ?_) (fun _ => ?_)
    | fail)
  · rename_i hkl hkc
    refine ⟨(k + 1, w), by dsimp only; omega, ⟨by dsimp only; omega, inferInstance, hlen9, hi9, us, how, ?_⟩, (by repeat' (first | exact sub_nil | refine sub_cons rfl ?_ | refine sub_int rfl (by first | rfl | omega | (push_cast; omega) | simp) ?_ | refine sub_eq rfl (by assumption) ?_))⟩
    dsimp only
    rw [repsTo_succ, if_neg (by omega), List.append_nil]
    exact hor
  rotate_left
  · obtain rfl : k = c.length := by omega
    exact ret_g inferInstance inferInstance inferInstance inferInstance inferInstance rfl
  rename_i hkl hkc i10 σ10 g10 n10 h10
  have hk' : k < c.length := by omega
  have hkk : c.getD k 0 = k := by omega
  have hrw : RW σ1 (ss.getD k nilS) (g.getD k []) := inferInstance
  have hrb := hlim k
  have hmv : ∀ m ∈ g.getD k [], (-4 ≤ m.1 ∧ m.1 ≤ 4) ∧ 0 ≤ m.2 ∧ m.2 < g.length ∧ m.2.toNat < g.length ∧ ((m.2.toNat : Nat) : Int) = m.2 := fun m hm => hok.to (s := k) hm
  refine wc_loop [(1, _), (2, _), (4, _), (5, _), (8, _), (9, _)] (fun x : Nat × AV => [(10, x.2), (11, I x.1)]) (fun x σ' => x.1 ≤ (g.getD k []).length ∧ LeS σ9 σ' ∧ OW σ9 σ' x.2 (((g.getD k []).map (foldM c)).take x.1)) (fun x => (g.getD k []).length - x.1) (0, .sl i10 0 0) ⟨Nat.zero_le _, inferInstance, by simpa using (ow_of_has h10 n10.le rfl (by decide) : OW σ9 σ10 (.sl i10 0 0) ([] : List Mv))⟩ (by repeat' (first | exact sub_nil | refine sub_cons rfl ?_ | refine sub_int rfl (by first | rfl | omega | (push_cast; omega) | simp) ?_ | refine sub_eq rfl (by assumption) ?_)) ?_
  rintro ⟨q, v2⟩ σ11 ⟨hq, hle11, how11⟩
  dsimp only at hq how11 ⊢
  have := hle11.grow
  have honew := how11.one
  repeat' (first
    | refine wl_pop rfl (pc_ldAV rfl inferInstance inferInstance (by omega) inferInstance) ?_
    | refine wl_pop rfl (pc_indexRow rfl rfl inferInstance inferInstance inferInstance (by omega)) ?_
    | refine wl_pop rfl (pc_lenRow rfl inferInstance inferInstance) ?_
    | refine wp_seqA ?_
    | refine wp_region_seq ?_
    | refine thru_seq_next ?_
    | refine thru_seq ?_
    | refine exit_here ?_
    | refine wp_skipA ?_
    | refine wp_exitA ?_
    | refine wp_blockA ?_
    | refine wl_nil ?_
    | refine wl_pop rfl (po_move rfl) ?_
    | refine wl_pop rfl (po_binOp rfl rfl rfl) ?_
    | refine wl_pop rfl (po_fieldAddr rfl inferInstance) ?_
    | refine wc_load1 rfl inferInstance (at_has (.inl rfl) rfl rfl) rfl ?_
    | refine wp_condP rfl (fun _ => ?_) (fun _ => ?_)
    | fail)
  · rename_i hql
    have hq' : q < (g.getD k []).length := by omega
    have hmem : (g.getD k []).getD q (0, 0) ∈ g.getD k [] := by rw [getD_lt hq']; exact List.getElem_mem _
    have hmb := hmv _ hmem
    have hmd := hdj ((g.getD k []).getD q (0, 0)).2.toNat (by omega)
    refine wc_drawn [24, 25] mixed_ rfl ?_
    all_goals refine da_takeC 0 rfl rfl (by kernel_rfl) (by first | exact po_move rfl | fail) ?_
    all_goals refine da_takeC 1 rfl rfl (by kernel_rfl) (by first | exact po_fieldAddr rfl inferInstance | fail) ?_
    all_goals refine da_takeC 2 rfl rfl (by kernel_rfl) (by first | exact pc_load1L rfl inferInstance (at_has (.inl rfl) rfl rfl) inferInstance | fail) ?_
    all_goals refine da_takeC 3 rfl rfl (by kernel_rfl) (by first | exact po_move rfl | fail) ?_
    all_goals refine da_takeC 4 rfl rfl (by kernel_rfl) (by first | exact pc_indexRow rfl rfl inferInstance inferInstance inferInstance (by omega) | fail) ?_
    all_goals refine da_takeC 5 rfl rfl (by kernel_rfl) (by first | exact pc_ldAV rfl inferInstance inferInstance (by omega) inferInstance | fail) ?_
    all_goals refine da_takeC 6 rfl rfl (by kernel_rfl) (by first | exact po_move rfl | fail) ?_
    all_goals refine da_takeC 7 rfl rfl (by kernel_rfl) (by first | exact pc_indexRow rfl rfl inferInstance inferInstance inferInstance (by omega) | fail) ?_
    all_goals refine da_takeC 8 rfl rfl (by kernel_rfl) (by first | exact po_fieldAddr rfl inferInstance | fail) ?_
    all_goals refine da_takeC 9 rfl rfl (by kernel_rfl) (by first | exact pc_ldMv1 rfl inferInstance inferInstance (by omega) inferInstance | fail) ?_
    all_goals refine da_takeC 10 rfl rfl (by kernel_rfl) (by first | exact po_move rfl | fail) ?_
    all_goals refine da_takeC 11 rfl rfl (by kernel_rfl) (by first | exact po_fieldAddr rfl inferInstance | fail) ?_
    all_goals refine da_takeC 12 rfl rfl (by kernel_rfl) (by first | exact pc_load1L rfl inferInstance (at_has (.inl rfl) rfl rfl) inferInstance | fail) ?_
    all_goals refine da_takeC 13 rfl rfl (by kernel_rfl) (by first | exact po_move rfl | fail) ?_
    all_goals refine da_takeC 14 rfl rfl (by kernel_rfl) (by first | exact pc_indexRow rfl rfl inferInstance inferInstance inferInstance (by omega) | fail) ?_
    all_goals refine da_takeC 15 rfl rfl (by kernel_rfl) (by first | exact pc_ldAV rfl inferInstance inferInstance (by omega) inferInstance | fail) ?_
    all_goals refine da_takeC 16 rfl rfl (by kernel_rfl) (by first | exact po_move rfl | fail) ?_
    all_goals refine da_takeC 17 rfl rfl (by kernel_rfl) (by first | exact pc_indexRow rfl rfl inferInstance inferInstance inferInstance (by omega) | fail) ?_
    all_goals refine da_takeC 18 rfl rfl (by kernel_rfl) (by first | exact po_fieldAddr rfl inferInstance | fail) ?_
    all_goals refine da_takeC 19 rfl rfl (by kernel_rfl) (by first | exact pc_ldMv2 rfl inferInstance inferInstance (by omega) inferInstance | fail) ?_
    all_goals refine da_takeC 20 rfl rfl (by kernel_rfl) (by first | exact pc_indexRowZ rfl rfl inferInstance inferInstance inferInstance (by omega) (by omega) | fail) ?_
    all_goals refine da_takeC 21 rfl rfl (by kernel_rfl) (by first | exact pc_ldNat rfl inferInstance inferInstance (by omega) inferInstance | fail) ?_
    all_goals refine da_takeC 22 rfl rfl (by kernel_rfl) (by first | exact pc_buildMv rfl rfl inferInstance inferInstance rfl | fail) ?_
    all_goals (first | (refine da_one 23 rfl (by kernel_rfl) (fun _ _ _ _ => ?_); (repeat' (first | (refine wc_oneMv rfl inferInstance inferInstance rfl (by decide) rfl ?_; intro _ _ _ _ _) | fail)); all_goals (first | refine wl_nil ⟨rfl, (by first | exact LeS.len inferInstance | exact App.len (by assumption)), ?_⟩ | trace_state)))
    all_goals (refine da_last 24 rfl (by decide) (by kernel_rfl) ?_; (repeat' (first | (refine wc_append1 (α := Mv) (σ₀ := σ9) rfl rfl inferInstance inferInstance rfl (by decide) (by decide) inferInstance inferInstance (one_mv _ _) (by simp; omega) (may_ge σ9) (LeS.len inferInstance) rfl ?_; intro _ _ _ _ _ _) | fail)); all_goals (first | refine wl_nil (dl_in ?_) | trace_state))
    all_goals (refine dl_last 25 rfl (by decide) (by kernel_rfl) ?_; (repeat' (first | refine wl_pop rfl (po_assign rfl) ?_ | fail)); all_goals (first | refine wl_nil (dl_in ?_) | trace_state))
    all_goals refine dl_done (by kernel_rfl) ?_
    repeat' (first
      | refine wp_region_seq ?_
      | refine thru_seq_next ?_
      | refine thru_block_next ?_
      | refine wl_nil ?_
      | refine wl_pop rfl (po_move rfl) ?_
      | refine wl_pop rfl (po_assign rfl) ?_
      | refine wl_pop rfl (pc_add rfl rfl (by omega) (by omega)) ?_
      | fail)
    rename_i N7 B7 w7 r7 i14 σ14 g14 n14 h14 w' σ15 happ mk15 how15 one15
    refine ⟨(q + 1, w'), by dsimp only; omega, ⟨by dsimp only; omega, inferInstance, ?_⟩, (by repeat' (first | exact sub_nil | refine sub_cons rfl ?_ | refine sub_int rfl (by first | rfl | omega | (push_cast; omega) | simp) ?_ | refine sub_eq rfl (by assumption) ?_))⟩
    dsimp only
    rw [map_take_succ hq' (d := (0, 0))]
    rw [hmd] at how15
    exact how15
  obtain rfl : q = (g.getD k []).length := by omega
  rw [List.take_of_length_le (by simp)] at how11
  refine wc_drawn [5, 6, 7] mixed_ rfl ?_
  all_goals refine da_takeC 0 rfl rfl (by kernel_rfl) (by first | exact po_fieldAddr rfl inferInstance | fail) ?_
  all_goals refine da_takeC 1 rfl rfl (by kernel_rfl) (by first | exact pc_load1L rfl inferInstance (at_has (.inl rfl) rfl rfl) inferInstance | fail) ?_
  all_goals refine da_takeC 2 rfl rfl (by kernel_rfl) (by first | exact po_move rfl | fail) ?_
  all_goals (first | (refine da_one 3 rfl (by kernel_rfl) (fun _ _ _ _ => ?_); (repeat' (first | (refine wc_callOW rfl inferInstance rfl (c_l3Sorted _ _ (by rw [List.length_map]; exact hrb)) rfl ?_; intro _ _ _ _ _) | fail)); all_goals (first | refine wl_nil ⟨rfl, (by first | exact LeS.len inferInstance | exact App.len (by assumption)), ?_⟩ | trace_state)))
  all_goals (first | (refine da_one 4 rfl (by kernel_rfl) (fun _ _ _ _ => ?_); (repeat' (first | (refine wc_oneAV rfl inferInstance inferInstance rfl (by decide) rfl ?_; intro _ _ _ _ _) | fail)); all_goals (first | refine wl_nil ⟨rfl, (by first | exact LeS.len inferInstance | exact App.len (by assumption)), ?_⟩ | trace_state)))
  all_goals (refine da_last 5 rfl (by decide) (by kernel_rfl) ?_; (repeat' (first | (refine wc_append1 (α := AV) (σ₀ := σb) rfl rfl inferInstance inferInstance rfl (by decide) (by decide) inferInstance inferInstance (one_av inferInstance) (by omega) (may_ge σb) (Nat.le_trans hlen9 (LeS.len inferInstance)) rfl ?_; intro _ _ _ _ _ _) | fail)); all_goals (first | refine wl_nil (dl_in ?_) | trace_state))
  all_goals (refine dl_last 6 rfl (by decide) (by kernel_rfl) ?_; (repeat' (first | refine wl_pop rfl (po_fieldAddr rfl inferInstance) ?_ | fail)); all_goals (first | refine wl_nil (dl_in ?_) | trace_state))
  all_goals (refine dl_last 7 rfl (by decide) (by kernel_rfl) ?_; (repeat' (first | (refine wc_store1 rfl rfl inferInstance inferInstance inferInstance (Nat.le_of_ble_eq_true rfl) (.inr (may_new _)) ?_; intro _ _) | fail)); all_goals (first | refine wl_nil (dl_in ?_) | trace_state))
  all_goals refine dl_done (by kernel_rfl) ?_
  repeat' (first
    | refine wp_region_seq ?_
    | refine thru_seq_next ?_
    | refine thru_block_next ?_
    | refine wl_nil ?_
    | refine wl_pop rfl (po_move rfl) ?_
    | refine wl_pop rfl (po_assign rfl) ?_
    | refine wl_pop rfl (pc_add rfl rfl (by omega) (by omega)) ?_
    | fail)
  rename_i N7 B7 w7 r7 r σ12 or12 wr12 gr12 N8 B8 w8 r8 iv σ13 g13 n13 h13 v' σ14 happ mk14 how14 ov' σ15 u15
  have hor11 : ORs σb σ11 us _ := (inferInstance : ORs σb σ11 us ((repsTo c k).map fun k => tidyL ((g.getD k []).map (foldM c))))
  have hlen11 : σb.length ≤ σ11.length := Nat.le_trans hlen9 hle11.len
  have hpush := rows_push (by decide) hor11 (inferInstance : OW σb σ11 w us) hlen11 hb8 (inferInstance : OW σ11 σ13 r _) inferInstance happ u15
  have how15 : OW σb σ15 v' (us ++ [r]) := inferInstance
  have hlen15 : σb.length ≤ σ15.length := by
    have := happ.len
    have := (inferInstance : LeS σ11 σ13).len
    rw [u15.eq, List.length_set]; omega
  refine ⟨(k + 1, v'), by dsimp only; omega, ⟨by dsimp only; omega, inferInstance, hlen15, instHasUpd (g := u15), us ++ [r], how15, ?_⟩, (by repeat' (first | exact sub_nil | refine sub_cons rfl ?_ | refine sub_int rfl (by first | rfl | omega | (push_cast; omega) | simp) ?_ | refine sub_eq rfl (by assumption) ?_))⟩
  dsimp only
  rw [repsTo_succ, if_pos hkk, List.map_append]
  exact hpush
theorem c_sGraphFold (σ : Store) (s : AV) {ss : List AV} {g : Gr} [hs : RW σ s ss] [hg : RRs σ ss g] (hlim : ∀ k, (g.getD k []).length < 4294967296) :
    ACall Try.prog base F_spec_GraphFold [.agg [s]] σ (fun _ => False) (RetGO σ (optB (GOk g) (foldG g (lastC g)))) := by
  have hb := hs.bound
  have := hs.one
  have hl := hg.len
  refine acall1 fun_spec_GraphFold rfl tmps_spec_GraphFold rfl fun N B w₀ ρ₀ => ?_
  repeat' (first
    | (refine wc_callR rfl inferInstance rfl (c_sGraphOk _ _) rfl ?_; intro _ _)
    | refine wc_loadn rfl inferInstance (at_has (cs := [_]) (.inl rfl) rfl rfl) rfl ?_
    | refine at_ret (res_cell2 rfl rfl inferInstance (at_has (cs := [_]) (.inl rfl) rfl rfl) rfl) ?_
    | refine wl_pop rfl (pc_build0 (cs := [_]) inferInstance inferInstance rfl) ?_
    | refine wp_condNPr rfl (fun _ => ?_) (fun _ => ?_)
    | refine wp_seqA ?_
    | refine wp_region_seq ?_
    | refine thru_seq_next ?_
    | refine thru_seq_ret ?_
    | refine wp_skipA ?_
    | refine wp_retA ?_
    | refine wl_nil ?_
    | refine wl_pop rfl (po_assign rfl) ?_
    | refine wl_pop rfl (po_not rfl) ?_
    | (refine wc_storeA rfl rfl inferInstance inferInstance rfl inferInstance (Nat.le_of_ble_eq_true rfl) (.inr (may_new _)) ?_; intro _ _)
    | (refine wc_boxA rfl inferInstance rfl ?_; intro _ _ _ _ _)
    | (refine wc_allocA (cs := [_]) inferInstance rfl inferInstance rfl ?_; intro _ _ _ _ _)
    | fail)
  · exact ret_go_none (optB_no (by assumption)) inferInstance
  rename_i i1 σ1 g1 n1 h1 i2 σ2 g2 n2 h2 σ3 g3 hok
  rw [optB_yes hok]
  refine wc_drawn [4, 5] mixed_ rfl ?_
  all_goals refine da_takeC 0 rfl rfl (by kernel_rfl) (by first | exact pc_loadnL rfl inferInstance (at_has (cs := [_]) (.inl rfl) rfl rfl) inferInstance | fail) ?_
  all_goals refine da_takeC 1 rfl rfl (by kernel_rfl) (by first | exact pc_loadnL rfl inferInstance (at_has (cs := [_]) (.inl rfl) rfl rfl) inferInstance | fail) ?_
  all_goals (first | (refine da_one 2 rfl (by kernel_rfl) (fun _ _ _ _ => ?_); (repeat' (first | (refine wc_callOW rfl inferInstance rfl (c_l4Classes _ _ hok) rfl ?_; intro _ _ _ _ _) | fail)); all_goals (first | refine wl_nil ⟨rfl, (by first | exact LeS.len inferInstance | exact App.len (by assumption)), ?_⟩ | trace_state)))
  all_goals (first | (refine da_one 3 rfl (by kernel_rfl) (fun _ _ _ _ => ?_); (repeat' (first | (refine wc_callG rfl inferInstance rfl (c_l4Fold _ _ _ hok (lastC_len g) (lastC_canon g) hlim) rfl ?_; intro _ _ _ _ _ _ _) | fail)); all_goals (first | refine wl_nil ⟨rfl, (by first | exact LeS.len inferInstance | exact App.len (by assumption)), ?_⟩ | trace_state)))
  all_goals (refine da_last 4 rfl (by decide) (by kernel_rfl) ?_; (repeat' (first | (refine wc_storeA rfl rfl inferInstance inferInstance rfl inferInstance (Nat.le_of_ble_eq_true rfl) (.inr (may_new _)) ?_; intro _ _) | fail)); all_goals (first | refine wl_nil (dl_in ?_) | trace_state))
  all_goals (refine dl_last 5 rfl (by decide) (by kernel_rfl) ?_; (repeat' (first | refine wl_pop rfl (po_assign rfl) ?_ | fail)); all_goals (first | refine wl_nil (dl_in ?_) | trace_state))
  all_goals refine dl_done (by kernel_rfl) ?_
  repeat' (first
    | refine at_ret (res_cell2 rfl rfl inferInstance (at_has (cs := [_]) (.inl rfl) rfl rfl) rfl) ?_
    | refine thru_seq_next ?_
    | refine wp_retA ?_
    | fail)
  exact ret_go rfl inferInstance inferInstance inferInstance inferInstance inferInstance
end
end Go.Proofs.Ythbodgnoadlbcaa.Asl
