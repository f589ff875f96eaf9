/- The states to which one comes. -/
import Derived.Test.YtpkgcdpebomalaaG4
import Derived.Test.YtpkgcdpebomalaaGG
namespace Go.Proofs.Ytpkgcdpebomalaa.Asl
open Go.RowKit Go.Proofs.YtpkgcdpebomalaaW.PrintLast
set_option linter.unusedVariables false
set_option linter.unusedSimpArgs false
attribute [local irreducible] WP WL andThen inBlock noGoto atEnd ACall DA DL PO Hold
set_option maxHeartbeats 4000000
set_option synthInstance.maxHeartbeats 400000
set_option synthInstance.maxSize 10000

/-- Which states have been found. -/
def seenL (n : Nat) (out : List Nat) : List Bool := (List.range n).map fun x => decide (x ∈ out)
theorem seenL_len (n : Nat) (out : List Nat) : (seenL n out).length = n := by simp [seenL]
theorem seenL_get {n x : Nat} (out : List Nat) (h : x < n) : (seenL n out).getD x false = decide (x ∈ out) := by
  rw [getD_lt (by simpa [seenL] using h)]; simp [seenL]
theorem seenL_add {n x : Nat} (out : List Nat) (h : x < n) : (seenL n out).set x true = seenL n (out ++ [x]) := by
  apply List.ext_getElem?
  intro j
  rw [List.getElem?_set]
  simp only [seenL, List.getElem?_map, List.length_map, List.length_range, List.mem_append, List.mem_singleton]
  by_cases e : x = j
  · subst e; simp [h]
  · rw [if_neg e]
    rcases Nat.lt_or_ge j n with hj | hj
    · have e' : ¬ j = x := fun h => e h.symm
      simp [List.getElem?_range hj, e']
    · rw [List.getElem?_eq_none (by simpa using hj)]; rfl
theorem seenL_one {n a : Nat} (h : a < n) : (List.replicate n false).set a true = seenL n [a] := by
  have := seenL_add (n := n) [] h
  rw [List.nil_append] at this
  rw [← this]
  congr 1
  apply List.ext_getElem?
  intro j
  simp [seenL, List.getElem?_replicate, List.getElem?_range]
  by_cases hj : j < n <;> simp [hj]
theorem scan_take {out : List Nat} {ms : List Mv} {j : Nat} (h : j < ms.length) : scan out (ms.take (j + 1)) = if (ms.getD j (0, 0)).2.toNat ∈ scan out (ms.take j) then scan out (ms.take j) else scan out (ms.take j) ++ [(ms.getD j (0, 0)).2.toNat] := by
  rw [take_succ_getD h (d := (0, 0)), scan_snoc]
/-- While states are found. -/
structure FI (σ : Store) (i n : Nat) (g : Gr) (a : Nat) (out : List Nat) (u : AV) (σ' : Store) : Prop where
  found : Found g a out
  le : LeS σ σ'
  ow : OW σ σ' u out
  seen : Has σ' i (Row (seenL n out))
  ne : ∀ m, u ≠ .sl i 0 m

section
variable {base : Nat}
theorem c_l3From (σ : Store) (s : AV) (a : Nat) {ss : List AV} {g : Gr} [hs : RW σ s ss] [hg : RRs σ ss g] (hok : GOk g) (ha : a < g.length) : ACall Try.prog base F_spec_l3From [.agg [s], I (a : Int)] σ (fun _ => False) (RetOW σ (fromL g a)) := by
  have hb := hs.bound
  have := hs.one
  have hl := hg.len
  have h60 := hok.most
  refine acall2 fun_spec_l3From rfl tmps_spec_l3From rfl fun N B w₀ ρ₀ => ?_
  repeat' (first
    | (refine wc_oneNat rfl inferInstance inferInstance rfl (by decide) rfl ?_; intro _ _ _ _ _)
    | (refine wc_makeRow (α := Bool) rfl rfl inferInstance inferInstance rfl rfl (by decide) (by omega) (by omega) rfl ?_; intro _ _ _ _ _)
    | (refine wc_stBool rfl rfl inferInstance inferInstance (by simp; omega) (.inr (may_new _)) ?_; intro _ _)
    | refine wl_pop rfl (pc_lenRow rfl inferInstance inferInstance) ?_
    | refine wp_seqA ?_
    | refine wp_region_seq ?_
    | refine thru_seq_next ?_
    | refine wp_blockA ?_
    | refine wl_nil ?_
    | refine wl_pop rfl (po_move rfl) ?_
    | refine wl_pop rfl (po_assign rfl) ?_
    | refine wl_pop rfl (pc_indexAddr rfl rfl inferInstance inferInstance (by omega)) ?_
    | refine wl_pop rfl (po_fieldAddr rfl inferInstance) ?_
    | refine wc_load1 rfl inferInstance (at_has (.inl rfl) rfl rfl) rfl ?_
    | (refine wc_boxA rfl inferInstance rfl ?_; intro _ _ _ _ _)
    | fail)
  rename_i i1 σ1 g1 n1 h1 i2 σ2 g2 n2 h2 i3 σ3 g3 n3 h3 σ4 u4
  have hn23 : i2 < i3 := Nat.lt_of_lt_of_le h2.lt n3.le
  have hseen : Has σ4 i3 (Row (seenL g.length [a])) := by
    have h := instHasUpd (g := u4)
    rw [hl] at h
    rw [← seenL_one ha]; exact h
  have hi : FI σ1 i3 g.length g a [a] (.sl i2 0 1) σ4 := ⟨Found.start ha, inferInstance, ow_of_has (inferInstance : Has σ4 i2 (Row [a])) n2.le rfl (by decide), hseen, fun m h => by cases h; omega⟩
  have hn3 : New σ1 i3 := n3.mono inferInstance
  clear n3 hseen
  refine wc_loop [(2, _), (6, _)] (fun x : Nat × List Nat × AV => [(5, x.2.2), (7, I x.1)]) (fun x σ' => x.1 ≤ x.2.1.length ∧ bfs g (g.length - x.1) x.1 x.2.1 = fromL g a ∧ FI σ1 i3 g.length g a x.2.1 x.2.2 σ') (fun x => g.length - x.1) (0, [a], .sl i2 0 1) ⟨Nat.zero_le _, rfl, hi⟩ (by repeat' (first | exact sub_nil | refine sub_cons rfl ?_ | refine sub_int rfl (by first | rfl | omega | (push_cast; omega) | simp) ?_ | refine sub_eq rfl (by assumption) ?_)) ?_
  rintro ⟨k, out, u⟩ σ5 ⟨hk, hbfs, hfi⟩
  dsimp only at hk hbfs hfi ⊢
  have := hfi.le.grow
  have := hfi.ow
  have := hfi.ow.one
  have hol := hfi.found.len
  repeat' (first
    | refine wl_pop rfl (pc_lenRow rfl inferInstance inferInstance) ?_
    | refine wp_seqA ?_
    | refine wp_region_seq ?_
    | refine thru_seq_next ?_
    | refine thru_seq ?_
    | refine exit_here ?_
    | refine wp_skipA ?_
    | refine wp_retA ?_
    | refine wp_exitA ?_
    | refine wp_blockA ?_
    | refine wl_nil ?_
    | refine wl_pop rfl (po_move rfl) ?_
    | refine wl_pop rfl (po_assign rfl) ?_
    | refine wl_pop rfl (po_binOp rfl rfl rfl) ?_
    | refine wp_condP rfl (fun _ => ?_) (fun _ => ?_)
    | refine at_ret (res1 rfl rfl) ?_
    | fail)
  rotate_left
  · exact ret_ow hfi.ow (inferInstance : LeS σ σ1) inferInstance (by rw [← hbfs, bfs_done (by omega)])
  have hk' : k < out.length := by omega
  have hx : out.getD k 0 < g.length := by
    rw [getD_lt hk']; exact hfi.found.lt _ (List.getElem_mem _)
  refine wc_drawn [] mixed_ rfl ?_
  all_goals refine da_takeC 0 rfl rfl (by kernel_rfl) (by first | exact po_fieldAddr rfl inferInstance | fail) ?_
  all_goals refine da_takeC 1 rfl rfl (by kernel_rfl) (by first | exact pc_load1L rfl inferInstance (at_has (.inl rfl) rfl rfl) inferInstance | fail) ?_
  all_goals refine da_takeC 2 rfl rfl (by kernel_rfl) (by first | exact po_move rfl | fail) ?_
  all_goals refine da_takeC 3 rfl rfl (by kernel_rfl) (by first | exact po_move rfl | fail) ?_
  all_goals refine da_takeC 4 rfl rfl (by kernel_rfl) (by first | exact pc_indexRow rfl rfl inferInstance inferInstance inferInstance (by omega) | fail) ?_
  all_goals refine da_takeC 5 rfl rfl (by kernel_rfl) (by first | exact pc_ldNat rfl inferInstance inferInstance (by omega) inferInstance | fail) ?_
  all_goals refine da_takeC 6 rfl rfl (by kernel_rfl) (by first | exact pc_indexRow rfl rfl inferInstance inferInstance inferInstance (by omega) | fail) ?_
  all_goals refine da_takeC 7 rfl rfl (by kernel_rfl) (by first | exact pc_ldAV rfl inferInstance inferInstance (by omega) inferInstance | fail) ?_
  all_goals refine da_takeC 8 rfl rfl (by kernel_rfl) (by first | exact po_assign rfl | fail) ?_
  all_goals refine da_done (by kernel_rfl) ?_
  have hrb := (hg.row (out.getD k 0)).bound
  repeat' (first
    | refine wp_seqA ?_
    | refine wp_region_seq ?_
    | refine thru_seq_next ?_
    | refine wp_blockA ?_
    | refine wl_nil ?_
    | refine wl_pop rfl (po_assign rfl) ?_
    | fail)
  refine wc_loop [(2, _), (6, _), (7, _), (8, _)] (fun y : Nat × AV => [(5, y.2), (9, I y.1)]) (fun y σ' => y.1 ≤ (g.getD (out.getD k 0) []).length ∧ FI σ1 i3 g.length g a (scan out ((g.getD (out.getD k 0) []).take y.1)) y.2 σ') (fun y => (g.getD (out.getD k 0) []).length - y.1) (0, u) ⟨Nat.zero_le _, by simpa [scan] using hfi⟩ (by repeat' (first | exact sub_nil | refine sub_cons rfl ?_ | refine sub_int rfl (by first | rfl | omega | (push_cast; omega) | simp) ?_ | refine sub_eq rfl (by assumption) ?_)) ?_
  rintro ⟨j, v⟩ σ6 ⟨hj, hfj⟩
  dsimp only at hj hfj ⊢
  have := hfj.le.grow
  have hvo := hfj.ow
  have := hfj.ow.one
  have hvs := hfj.seen
  have hvl := hfj.found.len
  have hmv : ∀ m ∈ g.getD (out.getD k 0) [], (-4 ≤ m.1 ∧ m.1 ≤ 4) ∧ 0 ≤ m.2 ∧ m.2 < g.length ∧ m.2.toNat < g.length ∧ ((m.2.toNat : Nat) : Int) = m.2 := fun m hm => hok.to (s := out.getD k 0) hm
  have hmj := getD_all (d := ((0, 0) : Mv)) (p := fun m => 0 ≤ m.2 ∧ m.2 < g.length) (fun m hm => ⟨(hmv m hm).2.1, (hmv m hm).2.2.1⟩) ⟨by simp, by simp; omega⟩ j
  have hrw : RW σ1 (ss.getD (out.getD k 0) nilS) (g.getD (out.getD k 0) []) := inferInstance
  have hsl := seenL_len g.length (scan out ((g.getD (out.getD k 0) []).take j))
  repeat' (first
    | refine wl_pop rfl (pc_indexSlZ rfl rfl inferInstance inferInstance (by omega) (by omega)) ?_
    | (refine wc_stBool rfl rfl inferInstance inferInstance (by omega) (.inr (may_new _)) ?_; intro _ _)
    | (refine wc_oneNatZ (by omega) rfl inferInstance inferInstance rfl (by decide) rfl ?_; intro _ _ _ _ _)
    | refine wl_pop rfl (pc_ldMv2 rfl inferInstance inferInstance (by omega) inferInstance) ?_
    | refine wl_pop rfl (pc_loBool rfl inferInstance inferInstance (by omega) inferInstance) ?_
    | refine wl_pop rfl (pc_indexRow rfl rfl inferInstance inferInstance inferInstance (by omega)) ?_
    | refine wl_pop rfl (pc_lenRow rfl inferInstance inferInstance) ?_
    | refine wp_seqA ?_
    | refine wp_region_seq ?_
    | refine thru_seq_next ?_
    | refine thru_seq ?_
    | refine thru_block_next ?_
    | refine exit_here ?_
    | refine wp_skipA ?_
    | refine wp_exitA ?_
    | refine wp_blockA ?_
    | refine wl_nil ?_
    | refine wl_pop rfl (po_move rfl) ?_
    | refine wl_pop rfl (po_assign rfl) ?_
    | refine wl_pop rfl (pc_add rfl rfl (by omega) (by omega)) ?_
    | refine wl_pop rfl (po_binOp rfl rfl rfl) ?_
    | refine wl_pop rfl (po_fieldAddr rfl inferInstance) ?_
    | refine wl_pop rfl (po_not rfl) ?_
    | refine wp_condP rfl (fun _ => ?_) (fun _ => ?_)
    | refine wp_condA rfl (fun _ => ?_) (fun _ => ?_)
    | fail)
  rotate_right
  · obtain rfl : j = (g.getD (out.getD k 0) []).length := by omega
    rw [List.take_length] at hfj
    refine ⟨(k + 1, scan out (g.getD (out.getD k 0) []), v), by dsimp only; omega, ⟨?_, ?_, hfj⟩, (by repeat' (first | exact sub_nil | refine sub_cons rfl ?_ | refine sub_int rfl (by first | rfl | omega | (push_cast; omega) | simp) ?_ | refine sub_eq rfl (by assumption) ?_))⟩
    · obtain ⟨t, ht⟩ := scan_pre (g.getD (out.getD k 0) []) out
      dsimp only
      rw [ht, List.length_append]; omega
    · dsimp only
      rw [← hbfs, bfs_step hfi.found hk']; rfl
  rotate_right
  · rename_i hjl hns
    have hjl' : j < (g.getD (out.getD k 0) []).length := by omega
    rw [seenL_get _ (by omega)] at hns
    refine ⟨(j + 1, v), by dsimp only; omega, ⟨by dsimp only; omega, ?_⟩, (by repeat' (first | exact sub_nil | refine sub_cons rfl ?_ | refine sub_int rfl (by first | rfl | omega | (push_cast; omega) | simp) ?_ | refine sub_eq rfl (by assumption) ?_))⟩
    dsimp only
    rw [scan_take hjl', if_pos (by simpa using hns)]
    exact hfj
  rename_i hjl hns σ7 u7 i8 σ8 g8 n8 h8
  have hjl' : j < (g.getD (out.getD k 0) []).length := by omega
  rw [seenL_get _ (by omega)] at hns
  have hw7 : OW σ1 σ7 v (scan out ((g.getD (out.getD k 0) []).take j)) := hfj.ow.keep fun q o hq ⟨n, e⟩ ho => by
    rw [u7.eq, List.getElem?_set_ne (fun h => hfj.ne n (by rw [h]; exact e))]; exact ho
  have h7 : Has σ7 i3 (Row (seenL g.length (scan out ((g.getD (out.getD k 0) []).take j) ++ [((g.getD (out.getD k 0) []).getD j (0, 0)).2.toNat]))) := by
    rw [← seenL_add _ (by omega)]; exact instHasUpd
  repeat' (first
    | (refine wc_append1 (α := Nat) (σ₀ := σ1) rfl rfl inferInstance inferInstance rfl (by decide) (by decide) (inferInstance) inferInstance (one_nat _) (by omega) (may_ge σ1) (LeS.len inferInstance) rfl ?_; intro _ _ _ _ _ _)
    | refine wp_region_seq ?_
    | refine thru_seq_next ?_
    | refine thru_block_next ?_
    | refine wl_nil ?_
    | refine wl_pop rfl (po_move rfl) ?_
    | refine wl_pop rfl (po_assign rfl) ?_
    | refine wl_pop rfl (pc_add rfl rfl (by omega) (by omega)) ?_
    | fail)
  rename_i v' σ9 happ hmk' how' hone'
  refine ⟨(j + 1, v'), by dsimp only; omega, ⟨by dsimp only; omega, ?_⟩, (by repeat' (first | exact sub_nil | refine sub_cons rfl ?_ | refine sub_int rfl (by first | rfl | omega | (push_cast; omega) | simp) ?_ | refine sub_eq rfl (by assumption) ?_))⟩
  dsimp only
  have hst := scan_take (out := out) hjl'
  have hfn : Found g a (scan out ((g.getD (out.getD k 0) []).take (j + 1))) := hfi.found.scan fun m hm => ⟨(hmv m (List.mem_of_mem_take hm)).2.1, (hmv m (List.mem_of_mem_take hm)).2.2.1⟩
  rw [if_neg (by simpa using hns)] at hst
  rw [hst] at hfn ⊢
  refine ⟨hfn, inferInstance, how', happ.has (inferInstance : Has σ8 i3 _) hfj.ne, fun m e => ?_⟩
  rcases happ.fresh with h | ⟨q, n, h, hq⟩
  · exact hfj.ne m (h ▸ e)
  · rw [e] at h; cases h
    have := h7.lt
    have := g8.len
    omega
end
end Go.Proofs.Ytpkgcdpebomalaa.Asl
