/- The states to which one comes: the program, by a map. -/
import Derived.Test.YthbodgnoadlbcaaGreatDoorG8
namespace Go.Proofs.YthbodgnoadlbcaaGreatDoor.Asl
open Go.RowKit Go.Proofs.YthbodgnoadlbcaaGreatDoorW.PrintLast
set_option linter.unusedVariables false
set_option linter.unusedSimpArgs false
attribute [local irreducible] WP WL andThen inBlock noGoto atEnd ACall DA DL PO Hold
set_option maxHeartbeats 4000000
set_option synthInstance.maxHeartbeats 400000
set_option synthInstance.maxSize 10000

/-- A map of the states that have been found. -/
def seenM (out : List Nat) : List (Int × AV) := out.map fun (x : Nat) => (((x : Nat) : Int), Bo true)
theorem seenM_snoc (out : List Nat) (x : Nat) : seenM out ++ [((x : Int), Bo true)] = seenM (out ++ [x]) := by simp [seenM]
theorem seenM_mget (out : List Nat) (x : Nat) : mget ((x : Nat) : Int) (seenM out) = if x ∈ out then some (Bo true) else none := by
  induction out with
  | nil => simp [seenM, mget]
  | cons y l ih =>
    simp only [seenM, List.map_cons] at *
    unfold mget
    by_cases h : x = y
    · subst h; rw [prB_true rfl]; simp
    · rw [prB_false (by omega), ih]
      simp [h]
theorem seenM_get (out : List Nat) {z : Int} (h : 0 ≤ z) : (mget z (seenM out)).getD (.lit (.bool false)) = Bo (decide (z.toNat ∈ out)) := by
  obtain ⟨x, rfl⟩ := Int.eq_ofNat_of_zero_le h
  rw [seenM_mget]
  by_cases hx : x ∈ out <;> simp [hx]
theorem seenM_new {out : List Nat} {z : Int} (h : 0 ≤ z) (hn : ¬ z.toNat ∈ out) : mget z (seenM out) = none := by
  obtain ⟨x, rfl⟩ := Int.eq_ofNat_of_zero_le h
  rw [seenM_mget, if_neg (by simpa using hn)]
/-- While states are found. -/
structure FM (σ : Store) (i : Nat) (g : Gr) (a : Nat) (out : List Nat) (u : AV) (σ' : Store) : Prop where
  found : Found g a out
  le : LeS σ σ'
  ow : OW σ σ' u out
  seen : Has σ' i (MapOb (seenM out))
  ne : ∀ m, u ≠ .sl i 0 m

section
variable {base : Nat}
theorem c_reached (σ : Store) (s : AV) (a : Nat) {ss : List AV} {g : Gr} [hs : RW σ s ss] [hg : RRs σ ss g] (hok : GOk g) (ha : a < g.length) : ACall Tryz.prog base F_impl_reached [.agg [s], I (a : Int)] σ (fun _ => False) (RetOW σ (fromL g a)) := by
  have hb := hs.bound
  have := hs.one
  have hl := hg.len
  have h60 := hok.most
  refine acall2 fun_impl_reached rfl tmps_impl_reached rfl fun N B w₀ ρ₀ => ?_
  repeat' (first
    | (refine wc_oneNat rfl inferInstance inferInstance rfl (by decide) rfl ?_; intro _ _ _ _ _)
    | (refine wc_makeMap (κ := Int) rfl ?_; intro _ _ _ _ _)
    | (refine wc_mapNew (κ := Int) (.inr rfl) rfl rfl rfl Un.eq Un.eq rfl inferInstance rfl (.inr (may_new _)) ?_; intro _ _)
    | refine wp_seqA ?_
    | refine wp_region_seq ?_
    | refine thru_seq_next ?_
    | refine wp_blockA ?_
    | refine wl_nil ?_
    | refine wl_pop rfl (po_move rfl) ?_
    | refine wl_pop rfl (po_assign rfl) ?_
    | (refine wc_boxA rfl inferInstance rfl ?_; intro _ _ _ _ _)
    | fail)
  rename_i i1 σ1 g1 n1 h1 i2 σ2 g2 n2 h2 i3 σ3 g3 n3 h3 σ4 u4
  have hn23 : i2 < i3 := Nat.lt_of_lt_of_le h2.lt n3.le
  have hseen : Has σ4 i3 (MapOb (seenM [a])) := instHasUpd (g := u4)
  have hi : FM σ1 i3 g a [a] (.sl i2 0 1) σ4 := ⟨Found.start ha, inferInstance, ow_of_has (inferInstance : Has σ4 i2 (Row [a])) n2.le rfl (by decide), hseen, fun m h => by cases h; omega⟩
  have hn3 : New σ1 i3 := n3.mono inferInstance
  clear n3 hseen
  refine wc_loop [(2, _), (6, _)] (fun x : Nat × List Nat × AV => [(5, x.2.2), (7, I x.1)]) (fun x σ' => x.1 ≤ x.2.1.length ∧ bfs g (g.length - x.1) x.1 x.2.1 = fromL g a ∧ FM σ1 i3 g a x.2.1 x.2.2 σ') (fun x => g.length - x.1) (0, [a], .sl i2 0 1) ⟨Nat.zero_le _, rfl, hi⟩ (by repeat' (first | exact sub_nil | refine sub_cons rfl ?_ | refine sub_int rfl (by first | rfl | omega | (push_cast; omega) | simp) ?_ | refine sub_eq rfl (by assumption) ?_)) ?_
  rintro ⟨k, out, u⟩ σ5 ⟨hk, hbfs, hfi⟩
  dsimp only at hk hbfs hfi ⊢
  have := hfi.le.grow
  have := hfi.ow
  have := hfi.ow.one
  have hol := hfi.found.len
  repeat' (first
    | refine wl_pop rfl (pc_lenRow rfl inferInstance inferInstance) ?_
    | refine wp_seqA ?_
    | refine wp_region_seq ?_
    | refine thru_seq_next ?_
    | refine thru_seq ?_
    | refine exit_here ?_
    | refine wp_skipA ?_
    | refine wp_retA ?_
    | refine wp_exitA ?_
    | refine wp_blockA ?_
    | refine wl_nil ?_
    | refine wl_pop rfl (po_move rfl) ?_
    | refine wl_pop rfl (po_assign rfl) ?_
    | refine wl_pop rfl (po_binOp rfl rfl rfl) ?_
    | refine wp_condP rfl (fun _ => ?_) (fun _ => ?_)
    | refine at_ret (res1 rfl rfl) ?_
    | fail)
  rotate_left
  · exact ret_ow hfi.ow (inferInstance : LeS σ σ1) inferInstance (by rw [← hbfs, bfs_done (by omega)])
  have hk' : k < out.length := by omega
  have hx : out.getD k 0 < g.length := by
    rw [getD_lt hk']; exact hfi.found.lt _ (List.getElem_mem _)
  refine wc_drawn [] mixed_ rfl ?_
  all_goals refine da_takeC 0 rfl rfl (by kernel_rfl) (by first | exact po_fieldAddr rfl inferInstance | fail) ?_
  all_goals refine da_takeC 1 rfl rfl (by kernel_rfl) (by first | exact pc_load1L rfl inferInstance (at_has (.inl rfl) rfl rfl) inferInstance | fail) ?_
  all_goals refine da_takeC 2 rfl rfl (by kernel_rfl) (by first | exact po_move rfl | fail) ?_
  all_goals refine da_takeC 3 rfl rfl (by kernel_rfl) (by first | exact po_move rfl | fail) ?_
  all_goals refine da_takeC 4 rfl rfl (by kernel_rfl) (by first | exact pc_indexRow rfl rfl inferInstance inferInstance inferInstance (by omega) | fail) ?_
  all_goals refine da_takeC 5 rfl rfl (by kernel_rfl) (by first | exact pc_ldNat rfl inferInstance inferInstance (by omega) inferInstance | fail) ?_
  all_goals refine da_takeC 6 rfl rfl (by kernel_rfl) (by first | exact pc_indexRow rfl rfl inferInstance inferInstance inferInstance (by omega) | fail) ?_
  all_goals refine da_takeC 7 rfl rfl (by kernel_rfl) (by first | exact pc_ldAV rfl inferInstance inferInstance (by omega) inferInstance | fail) ?_
  all_goals refine da_takeC 8 rfl rfl (by kernel_rfl) (by first | exact pc_lenRow rfl inferInstance inferInstance | fail) ?_
  all_goals refine da_takeC 9 rfl rfl (by kernel_rfl) (by first | exact po_move rfl | fail) ?_
  all_goals refine da_done (by kernel_rfl) ?_
  have hrb := (hg.row (out.getD k 0)).bound
  repeat' (first
    | refine thru_seq_next ?_
    | refine wp_blockA ?_
    | fail)
  refine wc_loop [(2, _), (6, _), (7, _), (28, _), (29, _)] (fun y : Nat × AV => [(5, y.2), (30, I y.1)]) (fun y σ' => y.1 ≤ (g.getD (out.getD k 0) []).length ∧ FM σ1 i3 g a (scan out ((g.getD (out.getD k 0) []).take y.1)) y.2 σ') (fun y => (g.getD (out.getD k 0) []).length - y.1) (0, u) ⟨Nat.zero_le _, by simpa [scan] using hfi⟩ (by repeat' (first | exact sub_nil | refine sub_cons rfl ?_ | refine sub_int rfl (by first | rfl | omega | (push_cast; omega) | simp) ?_ | refine sub_eq rfl (by assumption) ?_)) ?_
  rintro ⟨j, v⟩ σ6 ⟨hj, hfj⟩
  dsimp only at hj hfj ⊢
  have := hfj.le.grow
  have hvo := hfj.ow
  have := hfj.ow.one
  have hvs := hfj.seen
  have hvl := hfj.found.len
  have hmv : ∀ m ∈ g.getD (out.getD k 0) [], (-4 ≤ m.1 ∧ m.1 ≤ 4) ∧ 0 ≤ m.2 ∧ m.2 < g.length ∧ m.2.toNat < g.length ∧ ((m.2.toNat : Nat) : Int) = m.2 := fun m hm => hok.to (s := out.getD k 0) hm
  have hmj := getD_all (d := ((0, 0) : Mv)) (p := fun m => 0 ≤ m.2 ∧ m.2 < g.length) (fun m hm => ⟨(hmv m hm).2.1, (hmv m hm).2.2.1⟩) ⟨by simp, by simp; omega⟩ j
  have hrw : RW σ1 (ss.getD (out.getD k 0) nilS) (g.getD (out.getD k 0) []) := inferInstance
  repeat' (first
    | refine wl_pop rfl (pc_lookup (κ := Int) rfl rfl Un.eq Un.eq rfl inferInstance inferInstance inferInstance (seenM_get _ (by omega))) ?_
    | (refine wc_mapNew (κ := Int) (.inl rfl) rfl rfl rfl Un.eq Un.eq rfl inferInstance (seenM_new (by omega) (by assumption)) (.inr (may_new _)) ?_; intro _ _)
    | (refine wc_oneNatZ (by omega) rfl inferInstance inferInstance rfl (by decide) rfl ?_; intro _ _ _ _ _)
    | refine wl_pop rfl (pc_ldMv rfl inferInstance inferInstance (by omega) inferInstance) ?_
    | refine wl_pop rfl (pc_indexRow rfl rfl inferInstance inferInstance inferInstance (by omega)) ?_
    | refine wp_seqA ?_
    | refine wp_region_seq ?_
    | refine thru_seq_next ?_
    | refine thru_seq ?_
    | refine thru_block_next ?_
    | refine exit_here ?_
    | refine wp_skipA ?_
    | refine wp_exitA ?_
    | refine wp_blockA ?_
    | refine wl_nil ?_
    | refine wl_pop rfl (po_move rfl) ?_
    | refine wl_pop rfl (po_assign rfl) ?_
    | refine wl_pop rfl (pc_add rfl rfl (by omega) (by omega)) ?_
    | refine wl_pop rfl (po_binOp rfl rfl rfl) ?_
    | refine wl_pop rfl (po_fieldAddr rfl inferInstance) ?_
    | refine wc_load1 rfl inferInstance (at_has (.inl rfl) rfl rfl) rfl ?_
    | refine wl_pop rfl (po_not rfl) ?_
    | (refine wc_storeA rfl rfl inferInstance inferInstance rfl inferInstance (Nat.le_of_ble_eq_true rfl) (.inr (may_new _)) ?_; intro _ _)
    | (refine wc_allocA (cs := [_, _]) inferInstance rfl inferInstance rfl ?_; intro _ _ _ _ _)
    | refine wp_condP rfl (fun _ => ?_) (fun _ => ?_)
    | refine wp_condNP rfl (fun _ => ?_) (fun _ => ?_)
    | fail)
  rotate_right
  · obtain rfl : j = (g.getD (out.getD k 0) []).length := by omega
    rw [List.take_length] at hfj
    refine ⟨(k + 1, scan out (g.getD (out.getD k 0) []), v), by dsimp only; omega, ⟨?_, ?_, hfj⟩, (by repeat' (first | exact sub_nil | refine sub_cons rfl ?_ | refine sub_int rfl (by first | rfl | omega | (push_cast; omega) | simp) ?_ | refine sub_eq rfl (by assumption) ?_))⟩
    · obtain ⟨t, ht⟩ := scan_pre (g.getD (out.getD k 0) []) out
      dsimp only
      rw [ht, List.length_append]; omega
    · dsimp only
      rw [← hbfs, bfs_step hfi.found hk']; rfl
  rotate_right
  · rename_i hjl i7 σ7 g7 n7 h7 σ8 u8 hns
    have hjl' : j < (g.getD (out.getD k 0) []).length := by omega
    refine ⟨(j + 1, v), by dsimp only; omega, ⟨by dsimp only; omega, ?_⟩, (by repeat' (first | exact sub_nil | refine sub_cons rfl ?_ | refine sub_int rfl (by first | rfl | omega | (push_cast; omega) | simp) ?_ | refine sub_eq rfl (by assumption) ?_))⟩
    dsimp only
    rw [scan_take hjl', if_pos hns]
    exact ⟨hfj.found, inferInstance, inferInstance, inferInstance, hfj.ne⟩
  rename_i hjl i7 σ7 g7 n7 h7 σ8 u8 hns σ9 u9 i10 σ10 g10 n10 h10
  have hjl' : j < (g.getD (out.getD k 0) []).length := by omega
  have hi3 := hvs.lt
  have hi7 := n7.le
  have hw9 : OW σ1 σ9 v (scan out ((g.getD (out.getD k 0) []).take j)) := (inferInstance : OW σ1 σ8 v (scan out ((g.getD (out.getD k 0) []).take j))).keep fun q o hq ⟨n, e⟩ ho => by
    rw [u9.eq, List.getElem?_set_ne (fun h => hfj.ne n (by rw [h]; exact e))]; exact ho
  have h9 : Has σ9 i3 (MapOb (seenM (scan out ((g.getD (out.getD k 0) []).take j) ++ [((g.getD (out.getD k 0) []).getD j (0, 0)).2.toNat]))) := by
    rw [← seenM_snoc, Int.toNat_of_nonneg hmj.1]; exact instHasUpd
  repeat' (first
    | (refine wc_append1 (α := Nat) (σ₀ := σ1) rfl rfl inferInstance inferInstance rfl (by decide) (by decide) (inferInstance) inferInstance (one_nat _) (by omega) (may_ge σ1) (LeS.len inferInstance) rfl ?_; intro _ _ _ _ _ _)
    | refine wp_region_seq ?_
    | refine thru_seq_next ?_
    | refine thru_block_next ?_
    | refine wl_nil ?_
    | refine wl_pop rfl (po_move rfl) ?_
    | refine wl_pop rfl (po_assign rfl) ?_
    | refine wl_pop rfl (pc_add rfl rfl (by omega) (by omega)) ?_
    | fail)
  rename_i v' σ11 happ hmk' how' hone'
  refine ⟨(j + 1, v'), by dsimp only; omega, ⟨by dsimp only; omega, ?_⟩, (by repeat' (first | exact sub_nil | refine sub_cons rfl ?_ | refine sub_int rfl (by first | rfl | omega | (push_cast; omega) | simp) ?_ | refine sub_eq rfl (by assumption) ?_))⟩
  dsimp only
  have hst := scan_take (out := out) hjl'
  have hfn : Found g a (scan out ((g.getD (out.getD k 0) []).take (j + 1))) := hfi.found.scan fun m hm => ⟨(hmv m (List.mem_of_mem_take hm)).2.1, (hmv m (List.mem_of_mem_take hm)).2.2.1⟩
  rw [if_neg hns] at hst
  rw [hst] at hfn ⊢
  refine ⟨hfn, inferInstance, how', happ.has (inferInstance : Has σ10 i3 _) hfj.ne, fun m e => ?_⟩
  rcases happ.fresh with h | ⟨q, n, h, hq⟩
  · exact hfj.ne m (h ▸ e)
  · rw [e] at h; cases h
    have := h9.lt
    have := g10.len
    omega
end
end Go.Proofs.YthbodgnoadlbcaaGreatDoor.Asl
