/- Rounds, one behind the other: the program. -/
import Derived.Test.YthbodgnoadlbcaaGreatDoorS4
namespace Go.Proofs.YthbodgnoadlbcaaGreatDoor.Asl
open Go.RowKit Go.Proofs.YthbodgnoadlbcaaGreatDoorW.PrintLast
set_option linter.unusedVariables false
set_option linter.unusedSimpArgs false
attribute [local irreducible] WP WL andThen inBlock noGoto atEnd ACall DA DL PO Hold
set_option maxHeartbeats 4000000
set_option synthInstance.maxHeartbeats 400000
set_option synthInstance.maxSize 10000
section
variable {base : Nat}
theorem c_rounds_1 (σ : Store) (s i j : Nat) {v : AV} {mf : FuncId} {mc : List AV} {r : List Mv} [Callable Tryz.prog mf] (hi : Has σ i ⟨.own, 1, [.fn mf mc], []⟩) (hj : Has σ j ⟨.own, 1, [v], []⟩)
    (h : ∀ σ', LeS σ σ' → ACall Tryz.prog base mf ([v, I (s : Int)] ++ mc) σ' (fun _ => False) (RetOW σ' r)) :
    ACall Tryz.prog base F_impl_rounds_1 ([I (s : Int)] ++ [.pt i 0, .pt j 0]) σ (fun _ => False) (RetOW σ r) := by
  refine acall3 fun_impl_rounds_1 rfl tmps_impl_rounds_1 rfl fun N B w₀ ρ₀ => ?_
  repeat' (first
    | (refine wc_callOW rfl inI rfl (h _ inI) rfl ?_; intro _ _ _ _ _)
    | refine wp_seqA ?_
    | refine wp_region_seq ?_
    | refine thru_seq_next ?_
    | refine wp_retA ?_
    | refine wl_nil ?_
    | refine wl_pop rfl (po_move rfl) ?_
    | refine wl_pop rfl (po_assign rfl) ?_
    | refine wc_load1 rfl inI (at_has (.inl rfl) rfl rfl) rfl ?_
    | refine at_ret (res1 rfl rfl) ?_
    | fail)
  exact ret_ow (by assumption) instLeRefl inI rfl
theorem c_rounds (σ : Store) (mf : FuncId) (mc : List AV) {g : Gr} [Callable Tryz.prog mf] (h60 : g.length ≤ 60) (J : Store → Prop) (hJ : ∀ σ σ', LeS σ σ' → J σ → J σ') (j0 : J σ)
    (h : ∀ (v : AV) (c : List Nat) (s : Nat) (σ' : Store), c.length = g.length → s < g.length → J σ' → RW σ' v c → ACall Tryz.prog base mf ([v, I (s : Int)] ++ mc) σ' (fun _ => False) (RetOW σ' (sigL g c s))) :
    ACall Tryz.prog base F_impl_rounds [I (g.length : Int), .fn mf mc] σ (fun _ => False) (RetORs σ (roundsL g)) := by
  refine acall2 fun_impl_rounds rfl tmps_impl_rounds rfl fun N B w₀ ρ₀ => ?_
  repeat' (first
    | (refine wc_makeRow (α := Nat) rfl rfl inI inI rfl rfl (by decide) (by omega) (by omega) rfl ?_; intro _ _ _ _ _)
    | (refine wc_oneAV rfl inI inI rfl (by decide) rfl ?_; intro _ _ _ _ _)
    | refine wp_seqA ?_
    | refine wp_region_seq ?_
    | refine thru_seq_next ?_
    | refine wp_blockA ?_
    | refine wl_nil ?_
    | refine wl_pop rfl (po_move rfl) ?_
    | refine wl_pop rfl (po_assign rfl) ?_
    | (refine wc_box1 rfl inI rfl ?_; intro _ _ _ _ _)
    | fail)
  rename_i i1 σ1 g1 n1 h1 i2 σ2 g2 n2 h2 i3 σ3 g3 n3 h3
  have hw2 : OW σ1 σ2 (.sl i2 0 g.length) (List.replicate g.length 0) := ow_of_has (h2 : Has σ2 i2 (Row (List.replicate g.length (0 : Nat)))) n2.le (by simp) (by omega)
  refine wc_loop [(3, _)] (fun x : List (List Nat) × List Nat × Nat × AV => [(5, x.2.2.2)]) (fun x σ' => Canon x.2.1 ∧ x.2.1.length = g.length ∧ x.2.1.length ≤ x.2.2.1 + (reps x.2.1).length ∧ x.1.length + x.2.2.1 = g.length ∧ roundsL g = x.1 ++ rnds g x.2.2.1 x.2.1 ∧ LeS σ1 σ' ∧ ∃ us, OW σ1 σ' x.2.2.2 us ∧ ORs σ1 σ' us (x.1 ++ [x.2.1])) (fun x => x.2.2.1) ([], List.replicate g.length 0, g.length, .sl i3 0 1) ⟨Canon.zero _, by simp, by simp, by simp, rfl, inI, _, ow_of_has h3 (may_new σ1) rfl (by decide), ors_one inI⟩ (by repeat' (first | exact sub_nil | refine sub_cons rfl ?_ | refine sub_int rfl (by first | rfl | omega | (push_cast; omega) | simp) ?_ | refine sub_eq rfl (by assumption) ?_)) ?_
  rintro ⟨pre, c, f, v⟩ σ4 ⟨hcan, hcl, hcr, hpf, hrnd, hle, us, how, hor⟩
  dsimp only at hcan hcl hcr hpf hrnd how hor ⊢
  have := hle.grow
  have := how.one
  have hul : us.length = pre.length + 1 := by have := hor.len; simpa using this
  have hgc : (pre ++ [c]).getD ((us.length : Int) - 1).toNat [] = c := by
    rw [show ((us.length : Int) - 1).toNat = pre.length by omega]; simp [List.getD_eq_getElem?_getD]
  have hrow := hor.row ((us.length : Int) - 1).toNat
  rw [hgc] at hrow
  have hone := hrow.one
  repeat' (first
    | refine wl_pop rfl (pc_indexRowZ rfl rfl inI inI how.rw (by omega) (by omega)) ?_
    | refine wc_holdR 3 ?_
    | refine wl_pop rfl (pc_ldAV rfl inI inI (by omega) inI) ?_
    | refine wl_pop rfl (pc_lenRow rfl inI inI) ?_
    | refine wp_seqA ?_
    | refine wp_region_seq ?_
    | refine thru_seq_next ?_
    | refine wp_blockA ?_
    | refine wl_nil ?_
    | refine wl_pop rfl (po_move rfl) ?_
    | refine wl_pop rfl (pc_sub rfl rfl (by omega) (by omega)) ?_
    | (refine wc_store1 rfl rfl inI inI inI (Nat.le_of_ble_eq_true rfl) (.inr (may_new _)) ?_; intro _ _)
    | (refine wc_alloc1 inI rfl inI rfl ?_; intro _ _ _ _ _)
    | fail)
  rename_i i6 σ5 g5 n5 h5 σ6 u6
  refine hold_go ?_
  have h6 : Has σ6 i6 ⟨.own, 1, [us.getD ((us.length : Int) - 1).toNat nilS], []⟩ := instHasUpd (g := u6)
  have hrw6 : RW σ6 (us.getD ((us.length : Int) - 1).toNat nilS) c := (inI : OW σ1 σ6 (us.getD ((us.length : Int) - 1).toNat nilS) c).rw
  repeat' (first
    | (refine wc_callOW rfl inI rfl (c_refine _ _ _ _ (c := c) (by omega) (fun σ' => Has σ' i1 ⟨.own, 1, [.fn mf mc], []⟩ ∧ Has σ' i6 ⟨.own, 1, [us.getD ((us.length : Int) - 1).toNat nilS], []⟩ ∧ RW σ' (us.getD ((us.length : Int) - 1).toNat nilS) c ∧ J σ') (fun a b l k => ⟨⟨l.keep _ _ k.1.get⟩, ⟨l.keep _ _ k.2.1.get⟩, k.2.2.1.les l, hJ _ _ l k.2.2.2⟩) ⟨inI, inI, inI, hJ _ _ inI j0⟩ (fun s σ' hs hj => c_rounds_1 σ' s i1 i6 hj.1 hj.2.1 (fun σ'' l => h _ c s σ'' hcl (by omega) (hJ _ _ l hj.2.2.2) (hj.2.2.1.les l)))) rfl ?_; intro _ _ _ _ _)
    | refine wp_seqA ?_
    | refine wp_region_seq ?_
    | refine thru_seq_next ?_
    | refine wl_nil ?_
    | refine wl_pop rfl (po_move rfl) ?_
    | refine wl_pop rfl (po_assign rfl) ?_
    | refine wc_load1 rfl inI (at_has (.inl rfl) rfl rfl) rfl ?_
    | refine wl_pop rfl (po_makeFunc rfl rfl) ?_
    | fail)
  rename_i nx σ7 onx wnx gnx
  have hrw7 : RW σ7 (us.getD ((us.length : Int) - 1).toNat nilS) c := hrw6.les ⟨gnx.keep⟩
  repeat' (first
    | (refine wc_callR rfl inI rfl (c_EqualInt _ _ _) rfl ?_; intro _ _)
    | (refine wc_oneAV rfl inI inI rfl (by decide) rfl ?_; intro _ _ _ _ _)
    | (refine wc_append1 (α := AV) (σ₀ := σ1) rfl rfl inI inI rfl (by decide) (by decide) inI inI (one_av inI) (by omega) (may_ge σ1) (LeS.len inI) rfl ?_; intro _ _ _ _ _ _)
    | refine wp_condPr rfl (fun _ => ?_) (fun _ => ?_)
    | refine wp_seqA ?_
    | refine wp_region_seq ?_
    | refine thru_seq_next ?_
    | refine thru_seq_ret ?_
    | refine thru_block_ret ?_
    | refine thru_block_next ?_
    | refine wp_skipA ?_
    | refine wp_retA ?_
    | refine wl_nil ?_
    | refine wl_pop rfl (po_move rfl) ?_
    | refine wl_pop rfl (po_assign rfl) ?_
    | refine at_ret (res1 rfl rfl) ?_
    | fail)
  all_goals (try rw [hgc] at *)
  · rename_i σ8 g8 heq
    rw [hrnd, rnds_done heq]
    exact ⟨us, (inI : OW σ1 σ8 v us).down (LeS.len (inI : LeS σ σ1)), (inI : ORs σ1 σ8 us _).down (LeS.len (inI : LeS σ σ1)), (inI : LeS σ σ8).grow⟩
  · rename_i σ8 g8 hne i9 σ9 g9 n9 h9 v' σ10 happ mk10 how10 one10
    obtain ⟨f', hf', hcr', hr'⟩ := rnds_step hcan hne (by omega)
    have hpush := rounds_push (σ5 := σ6) (fun e => by rw [e] at hul; simp at hul) (inI : ORs σ1 σ6 us _) (inI : OW σ1 σ6 v us) (LeS.len (inI : LeS σ1 σ6)) (inI : OW σ6 σ9 nx _) inI happ
    exact ⟨(pre ++ [c], nextC g c, f', v'), by dsimp only; omega, ⟨Canon.next g c, by dsimp only; rw [nextC_length]; exact hcl, by dsimp only; rw [nextC_length]; exact hcr', by simp; omega, by dsimp only; rw [hrnd, hr', List.append_assoc]; rfl, inI, us ++ [nx], how10, hpush⟩, (by repeat' (first | exact sub_nil | refine sub_cons rfl ?_ | refine sub_int rfl (by first | rfl | omega | (push_cast; omega) | simp) ?_ | refine sub_eq rfl (by assumption) ?_))⟩
def clsM (c : List Nat) (m : Mv) : Mv := (m.1, ((c.getD m.2.toNat 0 : Nat) : Int))
theorem c_alikeRounds_1 (σ : Store) (v u : AV) (s i : Nat) {ss : List AV} {g : Gr} {c : List Nat} (hi : Has σ i ⟨.own, 1, [u], []⟩) (hs : RW σ u ss) (hg : RRs σ ss g) (hv : RW σ v c) (hok : GOk g) (hc : c.length = g.length) (h : s < g.length) (hlim : ∀ k, (g.getD k []).length < 4294967296) :
    ACall Tryz.prog base F_impl_alikeRounds_1 ([v, I (s : Int)] ++ [.pt i 0]) σ (fun _ => False) (RetOW σ (sigL g c s)) := by
  have hb := hs.bound
  have := hs.one
  have := hv.one
  have hl := hg.len
  have h60 := hok.most
  have hmv : ∀ m ∈ g.getD s [], (-4 ≤ m.1 ∧ m.1 ≤ 4) ∧ 0 ≤ m.2 ∧ m.2 < g.length ∧ m.2.toNat < g.length ∧ ((m.2.toNat : Nat) : Int) = m.2 := fun m hm => hok.to (s := s) hm
  have hrw : RW σ (ss.getD s nilS) (g.getD s []) := inI
  have hrb := hlim s
  refine acall3 fun_impl_alikeRounds_1 rfl tmps_impl_alikeRounds_1 rfl fun N B w₀ ρ₀ => ?_
  repeat' (first
    | (refine wc_row0 (α := Mv) inI inI rfl rfl (by decide) rfl ?_; intro _ _ _ _ _)
    | refine wl_pop rfl (pc_ldAV rfl inI inI (by omega) inI) ?_
    | refine wl_pop rfl (pc_indexRow rfl rfl inI inI inI (by omega)) ?_
    | refine wl_pop rfl (pc_lenRow rfl inI inI) ?_
    | refine wp_seqA ?_
    | refine wp_region_seq ?_
    | refine thru_seq_next ?_
    | refine wp_blockA ?_
    | refine wl_nil ?_
    | refine wl_pop rfl (po_move rfl) ?_
    | refine wl_pop rfl (po_assign rfl) ?_
    | refine wl_pop rfl (po_fieldAddr rfl inI) ?_
    | refine wc_load1 rfl inI (at_has (.inl rfl) rfl rfl) rfl ?_
    | fail)
  rename_i i1 σ1 g1 n1 h1
  refine wc_loop [(0, _), (14, _), (15, _)] (fun x : Nat × AV => [(6, x.2), (16, I x.1)]) (fun x σ' => x.1 ≤ (g.getD s []).length ∧ LeS σ σ' ∧ OW σ σ' x.2 (((g.getD s []).map (clsM c)).take x.1)) (fun x => (g.getD s []).length - x.1) (0, .sl i1 0 0) ⟨Nat.zero_le _, inI, by simpa using (ow_of_has h1 n1.le rfl (by decide) : OW σ σ1 (.sl i1 0 0) ([] : List Mv))⟩ (by repeat' (first | exact sub_nil | refine sub_cons rfl ?_ | refine sub_int rfl (by first | rfl | omega | (push_cast; omega) | simp) ?_ | refine sub_eq rfl (by assumption) ?_)) ?_
  rintro ⟨q, w⟩ σ2 ⟨hq, hle, how⟩
  dsimp only at hq how ⊢
  have := hle.grow
  have := how.one
  have hmb := getD_all (d := ((0, 0) : Mv)) (p := fun m => 0 ≤ m.2 ∧ m.2 < g.length) (fun m hm => ⟨(hmv m hm).2.1, (hmv m hm).2.2.1⟩) ⟨by simp, by simp; omega⟩ q
  repeat' (first
    | refine wl_pop rfl (pc_ldMv rfl inI inI (by omega) inI) ?_
    | refine wl_pop rfl (pc_indexRow rfl rfl inI inI inI (by omega)) ?_
    | refine wp_seqA ?_
    | refine wp_region_seq ?_
    | refine thru_seq_next ?_
    | refine thru_seq ?_
    | refine exit_here ?_
    | refine wp_skipA ?_
    | refine wp_exitA ?_
    | refine wp_blockA ?_
    | refine wl_nil ?_
    | refine wl_pop rfl (po_move rfl) ?_
    | refine wl_pop rfl (po_binOp rfl rfl rfl) ?_
    | (refine wc_storeA rfl rfl inI inI rfl inI (Nat.le_of_ble_eq_true rfl) (.inr (may_new _)) ?_; intro _ _)
    | (refine wc_allocA (cs := [_, _]) inI rfl inI rfl ?_; intro _ _ _ _ _)
    | refine wp_condP rfl (fun _ => ?_) (fun _ => ?_)
    | fail)
  · rename_i hql i3 σ3 g3 n3 h3 σ4 u4
    have hq' : q < (g.getD s []).length := by omega
    refine wc_drawn [10, 11] mixed_ rfl ?_
    all_goals refine da_takeC 0 rfl rfl (by kernel_rfl) (by first | exact po_move rfl | fail) ?_
    all_goals refine da_takeC 1 rfl rfl (by kernel_rfl) (by first | exact po_fieldAddr rfl inI | fail) ?_
    all_goals refine da_takeC 2 rfl rfl (by kernel_rfl) (by first | exact pc_load1L rfl inI (at_has (.inl rfl) rfl rfl) inI | fail) ?_
    all_goals refine da_takeC 3 rfl rfl (by kernel_rfl) (by first | exact po_move rfl | fail) ?_
    all_goals refine da_takeC 4 rfl rfl (by kernel_rfl) (by first | exact po_fieldAddr rfl inI | fail) ?_
    all_goals refine da_takeC 5 rfl rfl (by kernel_rfl) (by first | exact pc_load1L rfl inI (at_has (.inl rfl) rfl rfl) inI | fail) ?_
    all_goals refine da_takeC 6 rfl rfl (by kernel_rfl) (by first | exact pc_indexRowZ rfl rfl inI inI inI (by omega) (by omega) | fail) ?_
    all_goals refine da_takeC 7 rfl rfl (by kernel_rfl) (by first | exact pc_ldNat rfl inI inI (by omega) inI | fail) ?_
    all_goals refine da_takeC 8 rfl rfl (by kernel_rfl) (by first | exact pc_buildMv rfl rfl inI inI rfl | fail) ?_
    all_goals (first | (refine da_one 9 rfl (by kernel_rfl) (fun _ _ _ _ => ?_); (repeat' (first | (refine wc_oneMv rfl inI inI rfl (by decide) rfl ?_; intro _ _ _ _ _) | fail)); all_goals (first | refine wl_nil ⟨rfl, (by first | exact LeS.len inI | exact App.len (by assumption)), ?_⟩ | trace_state)))
    all_goals (refine da_last 10 rfl (by decide) (by kernel_rfl) ?_; (repeat' (first | (refine wc_append1 (α := Mv) (σ₀ := σ) rfl rfl inI inI rfl (by decide) (by decide) inI inI (one_mv _ _) (by simp; omega) (may_ge σ) (LeS.len inI) rfl ?_; intro _ _ _ _ _ _) | fail)); all_goals (first | refine wl_nil (dl_in ?_) | trace_state))
    all_goals (refine dl_last 11 rfl (by decide) (by kernel_rfl) ?_; (repeat' (first | refine wl_pop rfl (po_assign rfl) ?_ | fail)); all_goals (first | refine wl_nil (dl_in ?_) | trace_state))
    all_goals refine dl_done (by kernel_rfl) ?_
    repeat' (first
      | refine wp_region_seq ?_
      | refine thru_seq_next ?_
      | refine thru_block_next ?_
      | refine wl_nil ?_
      | refine wl_pop rfl (po_move rfl) ?_
      | refine wl_pop rfl (pc_add rfl rfl (by omega) (by omega)) ?_
      | fail)
    rename_i N7 B7 w7 r7 i14 σ14 g14 n14 h14 w' σ15 happ mk15 how15 one15
    refine ⟨(q + 1, w'), by dsimp only; omega, ⟨by dsimp only; omega, inI, ?_⟩, (by repeat' (first | exact sub_nil | refine sub_cons rfl ?_ | refine sub_int rfl (by first | rfl | omega | (push_cast; omega) | simp) ?_ | refine sub_eq rfl (by assumption) ?_))⟩
    dsimp only
    rw [map_take_succ hq' (d := (0, 0))]
    exact how15
  obtain rfl : q = (g.getD s []).length := by omega
  rw [List.take_of_length_le (by simp)] at how
  refine wc_callTidy σ σ2 rfl inI rfl how how (c_tidy σ2 w how) (may_ge σ) rfl fun r σ3 m3 w3 o3 => ?_
  repeat' (first
    | refine thru_seq_next ?_
    | refine wp_retA ?_
    | refine wl_nil ?_
    | refine wl_pop rfl (po_assign rfl) ?_
    | refine at_ret (res1 rfl rfl) ?_
    | fail)
  exact ret_ow w3 instLeRefl inI rfl
end
end Go.Proofs.YthbodgnoadlbcaaGreatDoor.Asl
