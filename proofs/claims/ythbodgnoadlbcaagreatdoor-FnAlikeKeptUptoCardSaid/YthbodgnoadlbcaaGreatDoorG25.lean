/- Rounds: the reference. -/
import Derived.Test.YthbodgnoadlbcaaGreatDoorG22
import Derived.Test.YthbodgnoadlbcaaGreatDoorG6
namespace Go.Proofs.YthbodgnoadlbcaaGreatDoor.Asl
open Go.RowKit Go.Proofs.YthbodgnoadlbcaaGreatDoorW.PrintLast
set_option linter.unusedVariables false
set_option linter.unusedSimpArgs false
section
variable {P : Program} {base : Nat} {f : FuncId} {fn : Func} {c : Code} {n : Nat} {a b e g h₅ : AV} {σ : Store} {T : Nat → Prop} {K : AV → Store → Prop}
theorem acall5 (hf : P.funcs[f]? = some fn) (hb : fn.body = some c) (hn : fn.ntmps = n) (hl : Nat.ble 5 n = true)
    (h : ∀ (N : Nat) (B : Nat → Prop) (w₀ : World) (ρ₀ : Pl), WP ⟨P, base, n, fun i => T i ∨ σ.length ≤ i, N, B, w₀, ρ₀, σ.length⟩ c (atEnd P fn K) [(0, a), (1, b), (2, e), (3, g), (4, h₅)] σ) : ACall P base f [a, b, e, g, h₅] σ T K := acall_of_wp hf hb hn (Nat.le_of_ble_eq_true hl) h
end
attribute [local irreducible] WP WL andThen inBlock noGoto atEnd ACall DA DL PO Hold
set_option maxHeartbeats 4000000
set_option synthInstance.maxHeartbeats 400000
set_option synthInstance.maxSize 10000
section
variable {base : Nat}
theorem c_l4Has (σ : Store) (u v : AV) (s : Nat) (act : Int) (k : Nat) {ss : List AV} {g : Gr} {c : List Nat} [hs : RW σ u ss] [hg : RRs σ ss g] [hv : RW σ v c] (hok : GOk g) (hc : c.length = g.length) (h : s < g.length) :
    ACall Tryz.prog base F_spec_l4Has [.agg [u], I (s : Int), I act, v, I (k : Int)] σ (fun _ => False) (Ret σ (Bo (prB (HasC g c s act k)))) := by
  have hb := hs.bound
  have := hs.one
  have := hv.one
  have hl := hg.len
  have h60 := hok.most
  have hmv : ∀ m ∈ g.getD s [], (-4 ≤ m.1 ∧ m.1 ≤ 4) ∧ 0 ≤ m.2 ∧ m.2 < g.length ∧ m.2.toNat < g.length ∧ ((m.2.toNat : Nat) : Int) = m.2 := fun m hm => hok.to (s := s) hm
  have hrw : RW σ (ss.getD s nilS) (g.getD s []) := inI
  have hrb := hrw.bound
  refine acall5 fun_spec_l4Has rfl tmps_spec_l4Has rfl fun N B w₀ ρ₀ => ?_
  repeat' (first
    | refine wp_seqA ?_
    | refine wp_region_seq ?_
    | refine thru_seq_next ?_
    | refine wp_blockA ?_
    | refine wl_nil ?_
    | refine wl_pop rfl (po_assign rfl) ?_
    | (refine wc_boxA rfl inI rfl ?_; intro _ _ _ _ _)
    | fail)
  rename_i i1 σ1 g1 n1 h1
  refine wc_loop [(1, _), (2, _), (3, _), (4, _), (5, _)] (fun q : Nat => [(11, I q)]) (fun q σ' => q ≤ (g.getD s []).length ∧ LeS σ1 σ' ∧ ∀ j, j < q → ¬ (((g.getD s []).getD j (0, 0)).1 = act ∧ c.getD ((g.getD s []).getD j (0, 0)).2.toNat 0 = k)) (fun q => (g.getD s []).length - q) 0 ⟨Nat.zero_le _, inI, fun j hj => by omega⟩ (by repeat' (first | exact sub_nil | refine sub_cons rfl ?_ | refine sub_int rfl (by first | rfl | omega | (push_cast; omega) | simp) ?_ | refine sub_eq rfl (by assumption) ?_)) ?_
  rintro q σ2 ⟨hq, hle, hno⟩
  have := hle.grow
  have hmb := getD_all (d := ((0, 0) : Mv)) (p := fun m => 0 ≤ m.2 ∧ m.2 < g.length) (fun m hm => ⟨(hmv m hm).2.1, (hmv m hm).2.2.1⟩) ⟨by simp, by simp; omega⟩ q
  repeat' (first
    | refine wl_pop rfl (pc_ldNat rfl inI inI (by omega) inI) ?_
    | refine wl_pop rfl (pc_ldAV rfl inI inI (by omega) inI) ?_
    | refine wl_pop rfl (pc_ldMv rfl inI inI (by omega) inI) ?_
    | refine wl_pop rfl (pc_indexRow rfl rfl inI inI inI (by omega)) ?_
    | refine wl_pop rfl (pc_indexRowZ rfl rfl inI inI inI (by omega) (by omega)) ?_
    | refine wl_pop rfl (pc_lenRow rfl inI inI) ?_
    | refine wp_seqA ?_
    | refine wp_region_seq ?_
    | refine thru_seq_next ?_
    | refine thru_seq_ret ?_
    | refine thru_seq ?_
    | refine thru_block_ret ?_
    | refine thru_block_next ?_
    | refine exit_here ?_
    | refine wp_skipA ?_
    | refine wp_retA ?_
    | refine wp_exitA ?_
    | refine wp_blockA ?_
    | refine wl_nil ?_
    | refine wl_pop rfl (po_move rfl) ?_
    | refine wl_pop rfl (po_assign rfl) ?_
    | refine wl_pop rfl (pc_add rfl rfl (by omega) (by omega)) ?_
    | refine wl_pop rfl (po_binOp rfl rfl rfl) ?_
    | refine wl_pop rfl (po_fieldAddr rfl inI) ?_
    | refine wc_load1 rfl inI (at_has (.inl rfl) rfl rfl) rfl ?_
    | (refine wc_storeA rfl rfl inI inI rfl inI (Nat.le_of_ble_eq_true rfl) (.inr (may_new _)) ?_; intro _ _)
    | (refine wc_allocA (cs := [_, _]) inI rfl inI rfl ?_; intro _ _ _ _ _)
    | refine wl_pop rfl (po_pick rfl rfl) ?_
    | refine wc_guardT_true rfl rfl rfl ?_
    | refine wc_guardF_true rfl rfl rfl rfl ?_
    | refine wc_guardP_true rfl rfl rfl rfl (fun _ => ?_) (fun _ => ?_)
    | refine wp_condF rfl ?_
    | refine wp_condP rfl (fun _ => ?_) (fun _ => ?_)
    | refine at_ret (res1 rfl rfl) ?_
    | fail)
  · rename_i hql i3 σ3 g3 n3 h3 σ4 u4 he1 he2
    have hq' : q < (g.getD s []).length := by omega
    refine ret_ inI (congrArg Bo (prB_true ⟨(g.getD s []).getD q (0, 0), ?_, he1, by omega⟩).symm)
    show _ ∈ g.getD s []
    rw [getD_lt hq']; exact List.getElem_mem _
  · rename_i hql i3 σ3 g3 n3 h3 σ4 u4 he1 he2
    refine ⟨q + 1, by omega, ⟨by omega, inI, fun j hj => ?_⟩, (by repeat' (first | exact sub_nil | refine sub_cons rfl ?_ | refine sub_int rfl (by first | rfl | omega | (push_cast; omega) | simp) ?_ | refine sub_eq rfl (by assumption) ?_))⟩
    rcases Nat.lt_or_ge j q with h | h
    · exact hno j h
    · obtain rfl : j = q := by omega
      exact fun h => he2 (by omega)
  · rename_i hql i3 σ3 g3 n3 h3 σ4 u4 he1
    refine ⟨q + 1, by omega, ⟨by omega, inI, fun j hj => ?_⟩, (by repeat' (first | exact sub_nil | refine sub_cons rfl ?_ | refine sub_int rfl (by first | rfl | omega | (push_cast; omega) | simp) ?_ | refine sub_eq rfl (by assumption) ?_))⟩
    rcases Nat.lt_or_ge j q with h | h
    · exact hno j h
    · obtain rfl : j = q := by omega
      exact fun h => he1 h.1
  · obtain rfl : q = (g.getD s []).length := by omega
    refine ret_ inI (congrArg Bo (prB_false ?_).symm)
    rintro ⟨m, hm, h1, h2⟩
    obtain ⟨j, hj, e⟩ := List.getElem_of_mem hm
    have hj' : j < (g.getD s []).length := hj
    refine hno j hj' ?_
    rw [getD_lt hj']
    have e' : (g.getD s [])[j] = m := e
    rw [e']; exact ⟨h1, h2⟩
theorem c_l4Covers (σ : Store) (u v : AV) (s t : Nat) {ss : List AV} {g : Gr} {c : List Nat} [hs : RW σ u ss] [hg : RRs σ ss g] [hv : RW σ v c] (hok : GOk g) (hc : c.length = g.length) (h : s < g.length) (ht : t < g.length) :
    ACall Tryz.prog base F_spec_l4Covers [.agg [u], I (s : Int), I (t : Int), v] σ (fun _ => False) (Ret σ (Bo (prB (CoversC g c s t)))) := by
  have hb := hs.bound
  have := hs.one
  have := hv.one
  have hl := hg.len
  have h60 := hok.most
  have hmv : ∀ m ∈ g.getD s [], (-4 ≤ m.1 ∧ m.1 ≤ 4) ∧ 0 ≤ m.2 ∧ m.2 < g.length ∧ m.2.toNat < g.length ∧ ((m.2.toNat : Nat) : Int) = m.2 := fun m hm => hok.to (s := s) hm
  have hrw : RW σ (ss.getD s nilS) (g.getD s []) := inI
  have hrb := hrw.bound
  refine acall4 fun_spec_l4Covers rfl tmps_spec_l4Covers rfl fun N B w₀ ρ₀ => ?_
  repeat' (first
    | refine wp_seqA ?_
    | refine wp_region_seq ?_
    | refine thru_seq_next ?_
    | refine wp_blockA ?_
    | refine wl_nil ?_
    | refine wl_pop rfl (po_assign rfl) ?_
    | (refine wc_boxA rfl inI rfl ?_; intro _ _ _ _ _)
    | fail)
  rename_i i1 σ1 g1 n1 h1
  refine wc_loop [(1, _), (2, _), (3, _), (4, _)] (fun q : Nat => [(9, I q)]) (fun q σ' => q ≤ (g.getD s []).length ∧ LeS σ1 σ' ∧ ∀ j, j < q → HasC g c t ((g.getD s []).getD j (0, 0)).1 (c.getD ((g.getD s []).getD j (0, 0)).2.toNat 0)) (fun q => (g.getD s []).length - q) 0 ⟨Nat.zero_le _, inI, fun j hj => by omega⟩ (by repeat' (first | exact sub_nil | refine sub_cons rfl ?_ | refine sub_int rfl (by first | rfl | omega | (push_cast; omega) | simp) ?_ | refine sub_eq rfl (by assumption) ?_)) ?_
  rintro q σ2 ⟨hq, hle, hno⟩
  have := hle.grow
  have hmb := getD_all (d := ((0, 0) : Mv)) (p := fun m => 0 ≤ m.2 ∧ m.2 < g.length) (fun m hm => ⟨(hmv m hm).2.1, (hmv m hm).2.2.1⟩) ⟨by simp, by simp; omega⟩ q
  repeat' (first
    | refine wl_pop rfl (pc_ldAV rfl inI inI (by omega) inI) ?_
    | refine wl_pop rfl (pc_ldMv rfl inI inI (by omega) inI) ?_
    | refine wl_pop rfl (pc_indexRow rfl rfl inI inI inI (by omega)) ?_
    | refine wl_pop rfl (pc_lenRow rfl inI inI) ?_
    | refine wp_seqA ?_
    | refine wp_region_seq ?_
    | refine thru_seq_next ?_
    | refine thru_seq ?_
    | refine exit_here ?_
    | refine wp_skipA ?_
    | refine wp_retA ?_
    | refine wp_exitA ?_
    | refine wp_blockA ?_
    | refine wl_nil ?_
    | refine wl_pop rfl (po_move rfl) ?_
    | refine wl_pop rfl (po_assign rfl) ?_
    | refine wl_pop rfl (po_binOp rfl rfl rfl) ?_
    | refine wl_pop rfl (po_fieldAddr rfl inI) ?_
    | refine wc_load1 rfl inI (at_has (.inl rfl) rfl rfl) rfl ?_
    | (refine wc_storeA rfl rfl inI inI rfl inI (Nat.le_of_ble_eq_true rfl) (.inr (may_new _)) ?_; intro _ _)
    | (refine wc_allocA (cs := [_, _]) inI rfl inI rfl ?_; intro _ _ _ _ _)
    | refine wp_condP rfl (fun _ => ?_) (fun _ => ?_)
    | refine at_ret (res1 rfl rfl) ?_
    | fail)
  · rename_i hql i3 σ3 g3 n3 h3 σ4 u4
    refine wc_drawn [] mixed_ rfl ?_
    all_goals refine da_takeC 0 rfl rfl (by kernel_rfl) (by first | exact pc_loadnL rfl inI (at_has (cs := [_]) (.inl rfl) rfl rfl) inI | fail) ?_
    all_goals refine da_takeC 1 rfl rfl (by kernel_rfl) (by first | exact po_move rfl | fail) ?_
    all_goals refine da_takeC 2 rfl rfl (by kernel_rfl) (by first | exact po_fieldAddr rfl inI | fail) ?_
    all_goals refine da_takeC 3 rfl rfl (by kernel_rfl) (by first | exact pc_load1L rfl inI (at_has (.inl rfl) rfl rfl) inI | fail) ?_
    all_goals refine da_takeC 4 rfl rfl (by kernel_rfl) (by first | exact po_move rfl | fail) ?_
    all_goals refine da_takeC 5 rfl rfl (by kernel_rfl) (by first | exact po_move rfl | fail) ?_
    all_goals refine da_takeC 6 rfl rfl (by kernel_rfl) (by first | exact po_fieldAddr rfl inI | fail) ?_
    all_goals refine da_takeC 7 rfl rfl (by kernel_rfl) (by first | exact pc_load1L rfl inI (at_has (.inl rfl) rfl rfl) inI | fail) ?_
    all_goals refine da_takeC 8 rfl rfl (by kernel_rfl) (by first | exact pc_indexRowZ rfl rfl inI inI inI (by omega) (by omega) | fail) ?_
    all_goals refine da_takeC 9 rfl rfl (by kernel_rfl) (by first | exact pc_ldNat rfl inI inI (by omega) inI | fail) ?_
    all_goals (first | (refine da_one 10 rfl (by kernel_rfl) (fun _ _ _ _ => ?_); (repeat' (first | (refine wc_callR rfl inI rfl (c_l4Has _ _ _ t _ _ hok hc ht) rfl ?_; intro _ _) | fail)); all_goals (first | refine wl_nil ⟨rfl, (by first | exact LeS.len inI | exact App.len (by assumption)), ?_⟩ | trace_state)))
    all_goals refine da_takeC 11 rfl rfl (by kernel_rfl) (by first | exact po_not rfl | fail) ?_
    all_goals refine da_done (by kernel_rfl) ?_
    have hq' : q < (g.getD s []).length := by omega
    have hmem : (g.getD s []).getD q (0, 0) ∈ rowOf g s := by
      show _ ∈ g.getD s []
      rw [getD_lt hq']; exact List.getElem_mem _
    repeat' (first
      | refine wp_condNPr rfl (fun _ => ?_) (fun _ => ?_)
      | refine wp_seqA ?_
      | refine wp_region_seq ?_
      | refine thru_seq_next ?_
      | refine thru_seq_ret ?_
      | refine thru_block_ret ?_
      | refine thru_block_next ?_
      | refine wp_skipA ?_
      | refine wp_retA ?_
      | refine wl_nil ?_
      | refine wl_pop rfl (po_move rfl) ?_
      | refine wl_pop rfl (po_assign rfl) ?_
      | refine wl_pop rfl (pc_add rfl rfl (by omega) (by omega)) ?_
      | refine at_ret (res1 rfl rfl) ?_
      | fail)
    · rename_i hno'
      exact ret_ inI (congrArg Bo (prB_false fun h => hno' (h _ hmem)).symm)
    · rename_i hyes
      refine ⟨q + 1, by omega, ⟨by omega, inI, fun j hj => ?_⟩, (by repeat' (first | exact sub_nil | refine sub_cons rfl ?_ | refine sub_int rfl (by first | rfl | omega | (push_cast; omega) | simp) ?_ | refine sub_eq rfl (by assumption) ?_))⟩
      rcases Nat.lt_or_ge j q with h | h
      · exact hno j h
      · obtain rfl : j = q := by omega
        exact hyes
  · obtain rfl : q = (g.getD s []).length := by omega
    refine ret_ inI (congrArg Bo (prB_true fun m hm => ?_).symm)
    obtain ⟨j, hj, e⟩ := List.getElem_of_mem hm
    have hj' : j < (g.getD s []).length := hj
    have h1 := hno j hj'
    rw [getD_lt hj'] at h1
    have e' : (g.getD s [])[j] = m := e
    rw [e'] at h1; exact h1
theorem sameC_iff {g : Gr} {c : List Nat} {t s : Nat} : SameC g c t s ↔ (c.getD t 0 = c.getD s 0 ∧ CoversC g c s t) ∧ CoversC g c t s := by
  unfold SameC
  rw [sig_iff]
  constructor
  · rintro ⟨h1, h2, h3⟩; exact ⟨⟨h1, h3⟩, h2⟩
  · rintro ⟨⟨h1, h2⟩, h3⟩; exact ⟨h1, h3, h2⟩
theorem c_l4Next (σ : Store) (u v : AV) {ss : List AV} {g : Gr} {c : List Nat} [hs : RW σ u ss] [hg : RRs σ ss g] [hv : RW σ v c] (hok : GOk g) (hc : c.length = g.length) :
    ACall Tryz.prog base F_spec_l4Next [.agg [u], v] σ (fun _ => False) (RetOW σ (nextC g c)) := by
  have hb := hs.bound
  have := hs.one
  have := hv.one
  have hl := hg.len
  have h60 := hok.most
  refine acall2 fun_spec_l4Next rfl tmps_spec_l4Next rfl fun N B w₀ ρ₀ => ?_
  repeat' (first
    | (refine wc_row0 (α := Nat) inI inI rfl rfl (by decide) rfl ?_; intro _ _ _ _ _)
    | refine wp_seqA ?_
    | refine wp_region_seq ?_
    | refine thru_seq_next ?_
    | refine wp_blockA ?_
    | refine wl_nil ?_
    | refine wl_pop rfl (po_assign rfl) ?_
    | (refine wc_boxA rfl inI rfl ?_; intro _ _ _ _ _)
    | fail)
  rename_i i1 σ1 g1 n1 h1 i2 σ2 g2 n2 h2
  have hw2 : OW σ1 σ2 (.sl i2 0 0) ([] : List Nat) := ow_of_has h2 n2.le rfl (by decide)
  refine wc_loop [(1, _), (2, _)] (fun x : Nat × AV => [(5, x.2), (6, I x.1)]) (fun x σ' => x.1 ≤ c.length ∧ LeS σ1 σ' ∧ OW σ1 σ' x.2 ((nextC g c).take x.1)) (fun x => c.length - x.1) (0, .sl i2 0 0) ⟨Nat.zero_le _, inI, by simpa using hw2⟩ (by repeat' (first | exact sub_nil | refine sub_cons rfl ?_ | refine sub_int rfl (by first | rfl | omega | (push_cast; omega) | simp) ?_ | refine sub_eq rfl (by assumption) ?_)) ?_
  rintro ⟨s, w⟩ σ3 ⟨hs3, hle, how⟩
  dsimp only at hs3 how ⊢
  have := hle.grow
  have := how.one
  repeat' (first
    | refine wl_pop rfl (pc_lenRow rfl inI inI) ?_
    | refine wp_seqA ?_
    | refine wp_region_seq ?_
    | refine thru_seq_next ?_
    | refine thru_seq ?_
    | refine exit_here ?_
    | refine wp_skipA ?_
    | refine wp_retA ?_
    | refine wp_exitA ?_
    | refine wp_blockA ?_
    | refine wl_nil ?_
    | refine wl_pop rfl (po_move rfl) ?_
    | refine wl_pop rfl (po_assign rfl) ?_
    | refine wl_pop rfl (pc_sub rfl rfl (by omega) (by omega)) ?_
    | refine wl_pop rfl (po_binOp rfl rfl rfl) ?_
    | refine wp_condP rfl (fun _ => ?_) (fun _ => ?_)
    | refine at_ret (res1 rfl rfl) ?_
    | fail)
  rotate_left
  · obtain rfl : s = c.length := by omega
    rw [← nextC_length g c, List.take_length] at how
    exact ret_ow how (inI : LeS σ σ1) inI rfl
  rename_i hsl
  have hs' : s < c.length := by omega
  refine wc_loop [(1, _), (2, _), (5, _), (6, _)] (fun x : Nat × Nat => [(7, I x.2), (8, I ((x.1 : Int) - 1))]) (fun x σ' => x.1 ≤ s ∧ x.1 ≤ x.2 ∧ x.2 ≤ s ∧ SameC g c x.2 s ∧ (∀ t, x.1 ≤ t → t < x.2 → ¬ SameC g c t s) ∧ LeS σ3 σ') (fun x => x.1) (s, s) ⟨Nat.le_refl _, Nat.le_refl _, Nat.le_refl _, SameC.refl g c s, fun t h1 h2 => by dsimp only at h1 h2; omega, inI⟩ (by repeat' (first | exact sub_nil | refine sub_cons rfl ?_ | refine sub_int rfl (by first | rfl | omega | (push_cast; omega) | simp) ?_ | refine sub_eq rfl (by assumption) ?_)) ?_
  rintro ⟨q, L⟩ σ4 ⟨hq, hqL, hL, hsame, hno, hle4⟩
  dsimp only at hq hqL hL hsame hno ⊢
  have := hle4.grow
  repeat' (first
    | (refine wc_oneNat rfl inI inI rfl (by decide) rfl ?_; intro _ _ _ _ _)
    | (refine wc_append1 (α := Nat) (σ₀ := σ1) rfl rfl inI inI rfl (by decide) (by decide) inI inI (one_nat _) (by simp; omega) (may_ge σ1) (LeS.len inI) rfl ?_; intro _ _ _ _ _ _)
    | refine wp_seqA ?_
    | refine wp_region_seq ?_
    | refine thru_seq_next ?_
    | refine thru_seq ?_
    | refine thru_block_next ?_
    | refine exit_here ?_
    | refine wp_skipA ?_
    | refine wp_exitA ?_
    | refine wp_blockA ?_
    | refine wl_nil ?_
    | refine wl_pop rfl (po_move rfl) ?_
    | refine wl_pop rfl (po_assign rfl) ?_
    | refine wl_pop rfl (pc_add rfl rfl (by omega) (by omega)) ?_
    | refine wl_pop rfl (po_binOp rfl rfl rfl) ?_
    | refine wp_condP rfl (fun _ => ?_) (fun _ => ?_)
    | fail)
  rotate_left
  · rename_i hq0 i5 σ5 g5 n5 h5 w' σ6 happ mk6 how6 one6
    obtain rfl : q = 0 := by omega
    have hL' := leastC_eq hsame fun t ht => hno t (Nat.zero_le _) ht
    refine ⟨(s + 1, w'), by dsimp only; omega, ⟨by dsimp only; omega, inI, ?_⟩, (by repeat' (first | exact sub_nil | refine sub_cons rfl ?_ | refine sub_int rfl (by first | rfl | omega | (push_cast; omega) | simp) ?_ | refine sub_eq rfl (by assumption) ?_))⟩
    dsimp only
    rw [take_succ_getD (by rw [nextC_length]; exact hs') (d := 0), nextC_get hs', hL']
    exact how6
  rename_i hq0
  obtain ⟨p, rfl⟩ : ∃ p, q = p + 1 := ⟨q - 1, by omega⟩
  rw [show (((p + 1 : Nat) : Int) - 1) = ((p : Nat) : Int) by omega]
  refine wc_drawn [] mixed_ rfl ?_
  all_goals refine da_takeC 0 rfl rfl (by kernel_rfl) (by first | exact po_move rfl | fail) ?_
  all_goals refine da_takeC 1 rfl rfl (by kernel_rfl) (by first | exact po_move rfl | fail) ?_
  all_goals refine da_takeC 2 rfl rfl (by kernel_rfl) (by first | exact pc_indexRow rfl rfl inI inI inI (by omega) | fail) ?_
  all_goals refine da_takeC 3 rfl rfl (by kernel_rfl) (by first | exact pc_ldNat rfl inI inI (by omega) inI | fail) ?_
  all_goals refine da_takeC 4 rfl rfl (by kernel_rfl) (by first | exact po_move rfl | fail) ?_
  all_goals refine da_takeC 5 rfl rfl (by kernel_rfl) (by first | exact po_move rfl | fail) ?_
  all_goals refine da_takeC 6 rfl rfl (by kernel_rfl) (by first | exact pc_indexRow rfl rfl inI inI inI (by omega) | fail) ?_
  all_goals refine da_takeC 7 rfl rfl (by kernel_rfl) (by first | exact pc_ldNat rfl inI inI (by omega) inI | fail) ?_
  all_goals refine da_takeC 8 rfl rfl (by kernel_rfl) (by first | exact po_binOp rfl rfl rfl | fail) ?_
  all_goals refine da_takeC 9 rfl rfl (by kernel_rfl) (by first | exact po_move rfl | fail) ?_
  all_goals (first | refine da_onC 10 rfl rfl rfl rfl rfl (by kernel_rfl) (by first | exact pc_loadnL rfl inI (at_has (cs := [_]) (.inl rfl) rfl rfl) inI | fail) ?_ | refine da_offC 10 rfl rfl rfl rfl rfl rfl (by kernel_rfl) ?_ | refine da_offU 10 rfl rfl rfl rfl rfl (by kernel_rfl) ?_ | ((first | refine da_caseP (t := 32) rfl (fun _ => ?_) (fun _ => ?_) | refine da_caseNP (t := 32) rfl (fun _ => ?_) (fun _ => ?_) | refine da_caseEq (t := 32) rfl (fun _ => ?_) (fun _ => ?_) | refine da_caseNe (t := 32) rfl (fun _ => ?_) (fun _ => ?_) | refine da_caseNB (t := 32) rfl (fun _ => ?_) (fun _ => ?_) | refine da_case (t := 32) rfl (fun _ => ?_) (fun _ => ?_)) <;> (first | refine da_onC 10 rfl rfl rfl rfl rfl (by kernel_rfl) (by first | exact pc_loadnL rfl inI (at_has (cs := [_]) (.inl rfl) rfl rfl) inI | fail) ?_ | refine da_offC 10 rfl rfl rfl rfl rfl rfl (by kernel_rfl) ?_ | refine da_offU 10 rfl rfl rfl rfl rfl (by kernel_rfl) ?_)))
  all_goals (first | refine da_onC 11 rfl rfl rfl rfl rfl (by kernel_rfl) (by first | exact po_move rfl | fail) ?_ | refine da_offC 11 rfl rfl rfl rfl rfl rfl (by kernel_rfl) ?_ | refine da_offU 11 rfl rfl rfl rfl rfl (by kernel_rfl) ?_ | ((first | refine da_caseP (t := 32) rfl (fun _ => ?_) (fun _ => ?_) | refine da_caseNP (t := 32) rfl (fun _ => ?_) (fun _ => ?_) | refine da_caseEq (t := 32) rfl (fun _ => ?_) (fun _ => ?_) | refine da_caseNe (t := 32) rfl (fun _ => ?_) (fun _ => ?_) | refine da_caseNB (t := 32) rfl (fun _ => ?_) (fun _ => ?_) | refine da_case (t := 32) rfl (fun _ => ?_) (fun _ => ?_)) <;> (first | refine da_onC 11 rfl rfl rfl rfl rfl (by kernel_rfl) (by first | exact po_move rfl | fail) ?_ | refine da_offC 11 rfl rfl rfl rfl rfl rfl (by kernel_rfl) ?_ | refine da_offU 11 rfl rfl rfl rfl rfl (by kernel_rfl) ?_)))
  all_goals (first | refine da_onC 12 rfl rfl rfl rfl rfl (by kernel_rfl) (by first | exact po_move rfl | fail) ?_ | refine da_offC 12 rfl rfl rfl rfl rfl rfl (by kernel_rfl) ?_ | refine da_offU 12 rfl rfl rfl rfl rfl (by kernel_rfl) ?_ | ((first | refine da_caseP (t := 32) rfl (fun _ => ?_) (fun _ => ?_) | refine da_caseNP (t := 32) rfl (fun _ => ?_) (fun _ => ?_) | refine da_caseEq (t := 32) rfl (fun _ => ?_) (fun _ => ?_) | refine da_caseNe (t := 32) rfl (fun _ => ?_) (fun _ => ?_) | refine da_caseNB (t := 32) rfl (fun _ => ?_) (fun _ => ?_) | refine da_case (t := 32) rfl (fun _ => ?_) (fun _ => ?_)) <;> (first | refine da_onC 12 rfl rfl rfl rfl rfl (by kernel_rfl) (by first | exact po_move rfl | fail) ?_ | refine da_offC 12 rfl rfl rfl rfl rfl rfl (by kernel_rfl) ?_ | refine da_offU 12 rfl rfl rfl rfl rfl (by kernel_rfl) ?_)))
  all_goals (first | refine da_onC 13 rfl rfl rfl rfl rfl (by kernel_rfl) (by first | exact po_move rfl | fail) ?_ | refine da_offC 13 rfl rfl rfl rfl rfl rfl (by kernel_rfl) ?_ | refine da_offU 13 rfl rfl rfl rfl rfl (by kernel_rfl) ?_ | ((first | refine da_caseP (t := 32) rfl (fun _ => ?_) (fun _ => ?_) | refine da_caseNP (t := 32) rfl (fun _ => ?_) (fun _ => ?_) | refine da_caseEq (t := 32) rfl (fun _ => ?_) (fun _ => ?_) | refine da_caseNe (t := 32) rfl (fun _ => ?_) (fun _ => ?_) | refine da_caseNB (t := 32) rfl (fun _ => ?_) (fun _ => ?_) | refine da_case (t := 32) rfl (fun _ => ?_) (fun _ => ?_)) <;> (first | refine da_onC 13 rfl rfl rfl rfl rfl (by kernel_rfl) (by first | exact po_move rfl | fail) ?_ | refine da_offC 13 rfl rfl rfl rfl rfl rfl (by kernel_rfl) ?_ | refine da_offU 13 rfl rfl rfl rfl rfl (by kernel_rfl) ?_)))
  all_goals (first | refine da_offC 14 rfl rfl rfl rfl rfl rfl (by kernel_rfl) ?_ | refine da_offU 14 rfl rfl rfl rfl rfl (by kernel_rfl) ?_ | (refine da_one 14 rfl (by kernel_rfl) (fun _ _ _ _ => ?_); (repeat' (first | (refine wc_callR rfl inI rfl (c_l4Covers _ _ _ s p hok hc (by omega) (by omega)) rfl ?_; intro _ _) | refine wc_guardT_true rfl rfl rfl ?_ | fail)); all_goals (first | refine wl_nil ⟨rfl, (by first | exact LeS.len inI | exact App.len (by assumption)), ?_⟩ | trace_state)) | ((first | refine da_caseP (t := 32) rfl (fun _ => ?_) (fun _ => ?_) | refine da_caseNP (t := 32) rfl (fun _ => ?_) (fun _ => ?_) | refine da_caseEq (t := 32) rfl (fun _ => ?_) (fun _ => ?_) | refine da_caseNe (t := 32) rfl (fun _ => ?_) (fun _ => ?_) | refine da_caseNB (t := 32) rfl (fun _ => ?_) (fun _ => ?_) | refine da_case (t := 32) rfl (fun _ => ?_) (fun _ => ?_)) <;> (first | refine da_offC 14 rfl rfl rfl rfl rfl rfl (by kernel_rfl) ?_ | refine da_offU 14 rfl rfl rfl rfl rfl (by kernel_rfl) ?_ | (refine da_one 14 rfl (by kernel_rfl) (fun _ _ _ _ => ?_); (repeat' (first | (refine wc_callR rfl inI rfl (c_l4Covers _ _ _ s p hok hc (by omega) (by omega)) rfl ?_; intro _ _) | refine wc_guardT_true rfl rfl rfl ?_ | fail)); all_goals (first | refine wl_nil ⟨rfl, (by first | exact LeS.len inI | exact App.len (by assumption)), ?_⟩ | trace_state)))))
  all_goals refine da_takeC 15 rfl rfl (by kernel_rfl) (by first | exact po_pick rfl rfl | fail) ?_
  all_goals refine da_takeC 16 rfl rfl (by kernel_rfl) (by first | exact po_move rfl | fail) ?_
  all_goals (first | refine da_onC 17 rfl rfl rfl rfl rfl (by kernel_rfl) (by first | exact pc_loadnL rfl inI (at_has (cs := [_]) (.inl rfl) rfl rfl) inI | fail) ?_ | refine da_offC 17 rfl rfl rfl rfl rfl rfl (by kernel_rfl) ?_ | refine da_offU 17 rfl rfl rfl rfl rfl (by kernel_rfl) ?_ | ((first | refine da_caseP (t := 39) rfl (fun _ => ?_) (fun _ => ?_) | refine da_caseNP (t := 39) rfl (fun _ => ?_) (fun _ => ?_) | refine da_caseEq (t := 39) rfl (fun _ => ?_) (fun _ => ?_) | refine da_caseNe (t := 39) rfl (fun _ => ?_) (fun _ => ?_) | refine da_caseNB (t := 39) rfl (fun _ => ?_) (fun _ => ?_) | refine da_case (t := 39) rfl (fun _ => ?_) (fun _ => ?_)) <;> (first | refine da_onC 17 rfl rfl rfl rfl rfl (by kernel_rfl) (by first | exact pc_loadnL rfl inI (at_has (cs := [_]) (.inl rfl) rfl rfl) inI | fail) ?_ | refine da_offC 17 rfl rfl rfl rfl rfl rfl (by kernel_rfl) ?_ | refine da_offU 17 rfl rfl rfl rfl rfl (by kernel_rfl) ?_)))
  all_goals (first | refine da_onC 18 rfl rfl rfl rfl rfl (by kernel_rfl) (by first | exact po_move rfl | fail) ?_ | refine da_offC 18 rfl rfl rfl rfl rfl rfl (by kernel_rfl) ?_ | refine da_offU 18 rfl rfl rfl rfl rfl (by kernel_rfl) ?_ | ((first | refine da_caseP (t := 39) rfl (fun _ => ?_) (fun _ => ?_) | refine da_caseNP (t := 39) rfl (fun _ => ?_) (fun _ => ?_) | refine da_caseEq (t := 39) rfl (fun _ => ?_) (fun _ => ?_) | refine da_caseNe (t := 39) rfl (fun _ => ?_) (fun _ => ?_) | refine da_caseNB (t := 39) rfl (fun _ => ?_) (fun _ => ?_) | refine da_case (t := 39) rfl (fun _ => ?_) (fun _ => ?_)) <;> (first | refine da_onC 18 rfl rfl rfl rfl rfl (by kernel_rfl) (by first | exact po_move rfl | fail) ?_ | refine da_offC 18 rfl rfl rfl rfl rfl rfl (by kernel_rfl) ?_ | refine da_offU 18 rfl rfl rfl rfl rfl (by kernel_rfl) ?_)))
  all_goals (first | refine da_onC 19 rfl rfl rfl rfl rfl (by kernel_rfl) (by first | exact po_move rfl | fail) ?_ | refine da_offC 19 rfl rfl rfl rfl rfl rfl (by kernel_rfl) ?_ | refine da_offU 19 rfl rfl rfl rfl rfl (by kernel_rfl) ?_ | ((first | refine da_caseP (t := 39) rfl (fun _ => ?_) (fun _ => ?_) | refine da_caseNP (t := 39) rfl (fun _ => ?_) (fun _ => ?_) | refine da_caseEq (t := 39) rfl (fun _ => ?_) (fun _ => ?_) | refine da_caseNe (t := 39) rfl (fun _ => ?_) (fun _ => ?_) | refine da_caseNB (t := 39) rfl (fun _ => ?_) (fun _ => ?_) | refine da_case (t := 39) rfl (fun _ => ?_) (fun _ => ?_)) <;> (first | refine da_onC 19 rfl rfl rfl rfl rfl (by kernel_rfl) (by first | exact po_move rfl | fail) ?_ | refine da_offC 19 rfl rfl rfl rfl rfl rfl (by kernel_rfl) ?_ | refine da_offU 19 rfl rfl rfl rfl rfl (by kernel_rfl) ?_)))
  all_goals (first | refine da_onC 20 rfl rfl rfl rfl rfl (by kernel_rfl) (by first | exact po_move rfl | fail) ?_ | refine da_offC 20 rfl rfl rfl rfl rfl rfl (by kernel_rfl) ?_ | refine da_offU 20 rfl rfl rfl rfl rfl (by kernel_rfl) ?_ | ((first | refine da_caseP (t := 39) rfl (fun _ => ?_) (fun _ => ?_) | refine da_caseNP (t := 39) rfl (fun _ => ?_) (fun _ => ?_) | refine da_caseEq (t := 39) rfl (fun _ => ?_) (fun _ => ?_) | refine da_caseNe (t := 39) rfl (fun _ => ?_) (fun _ => ?_) | refine da_caseNB (t := 39) rfl (fun _ => ?_) (fun _ => ?_) | refine da_case (t := 39) rfl (fun _ => ?_) (fun _ => ?_)) <;> (first | refine da_onC 20 rfl rfl rfl rfl rfl (by kernel_rfl) (by first | exact po_move rfl | fail) ?_ | refine da_offC 20 rfl rfl rfl rfl rfl rfl (by kernel_rfl) ?_ | refine da_offU 20 rfl rfl rfl rfl rfl (by kernel_rfl) ?_)))
  all_goals (first | refine da_offC 21 rfl rfl rfl rfl rfl rfl (by kernel_rfl) ?_ | refine da_offU 21 rfl rfl rfl rfl rfl (by kernel_rfl) ?_ | (refine da_one 21 rfl (by kernel_rfl) (fun _ _ _ _ => ?_); (repeat' (first | (refine wc_callR rfl inI rfl (c_l4Covers _ _ _ p s hok hc (by omega) (by omega)) rfl ?_; intro _ _) | refine wc_guardT_true rfl rfl rfl ?_ | fail)); all_goals (first | refine wl_nil ⟨rfl, (by first | exact LeS.len inI | exact App.len (by assumption)), ?_⟩ | trace_state)) | ((first | refine da_caseP (t := 39) rfl (fun _ => ?_) (fun _ => ?_) | refine da_caseNP (t := 39) rfl (fun _ => ?_) (fun _ => ?_) | refine da_caseEq (t := 39) rfl (fun _ => ?_) (fun _ => ?_) | refine da_caseNe (t := 39) rfl (fun _ => ?_) (fun _ => ?_) | refine da_caseNB (t := 39) rfl (fun _ => ?_) (fun _ => ?_) | refine da_case (t := 39) rfl (fun _ => ?_) (fun _ => ?_)) <;> (first | refine da_offC 21 rfl rfl rfl rfl rfl rfl (by kernel_rfl) ?_ | refine da_offU 21 rfl rfl rfl rfl rfl (by kernel_rfl) ?_ | (refine da_one 21 rfl (by kernel_rfl) (fun _ _ _ _ => ?_); (repeat' (first | (refine wc_callR rfl inI rfl (c_l4Covers _ _ _ p s hok hc (by omega) (by omega)) rfl ?_; intro _ _) | refine wc_guardT_true rfl rfl rfl ?_ | fail)); all_goals (first | refine wl_nil ⟨rfl, (by first | exact LeS.len inI | exact App.len (by assumption)), ?_⟩ | trace_state)))))
  all_goals refine da_takeC 22 rfl rfl (by kernel_rfl) (by first | exact po_pick rfl rfl | fail) ?_
  all_goals refine da_done (by kernel_rfl) ?_
  all_goals (
    repeat' (first
      | refine wp_condPr rfl (fun _ => ?_) (fun _ => ?_)
      | refine wp_region_seq ?_
      | refine thru_seq_next ?_
      | refine thru_block_next ?_
      | refine wp_skipA ?_
      | refine wl_nil ?_
      | refine wl_pop rfl (po_move rfl) ?_
      | refine wl_pop rfl (po_assign rfl) ?_
      | refine wl_pop rfl (pc_sub rfl rfl (by omega) (by omega)) ?_
      | refine wp_condF rfl ?_
      | fail)
    )
  · rename_i he _ _ _ _ σ5 g5 hp1 _ _ _ _ σ6 g6 hp2
    have hs1 : SameC g c p s := sameC_iff.mpr ⟨⟨by omega, prB_of hp1⟩, hp2⟩
    exact ⟨(p, p), by dsimp only; omega, ⟨by dsimp only; omega, Nat.le_refl _, by dsimp only; omega, hs1, fun t h1 h2 => by dsimp only at h1 h2; omega, inI⟩, (by repeat' (first | exact sub_nil | refine sub_cons rfl ?_ | refine sub_int rfl (by first | rfl | omega | (push_cast; omega) | simp) ?_ | refine sub_eq rfl (by assumption) ?_))⟩
  all_goals (
    have hn1 : ¬ SameC g c p s := by
      intro h
      have h := sameC_iff.mp h
      first
      | (have h1 := h.1.1; omega)
      | (have h1 := h.1.2; rw [prB_true h1] at *; contradiction)
      | exact absurd h.2 (by assumption)
    exact ⟨(p, L), by dsimp only; omega, ⟨by dsimp only; omega, by dsimp only; omega, hL, hsame, fun t h1 h2 => by
      dsimp only at h1 h2
      rcases Nat.eq_or_lt_of_le h1 with h | h
      · subst h; exact hn1
      · exact hno t h h2, inI⟩, (by repeat' (first | exact sub_nil | refine sub_cons rfl ?_ | refine sub_int rfl (by first | rfl | omega | (push_cast; omega) | simp) ?_ | refine sub_eq rfl (by assumption) ?_))⟩
    )
theorem c_l4Same (σ : Store) (s s' : AV) {l l' : List Nat} [hs : RW σ s l] [hs' : RW σ s' l'] : ACall Tryz.prog base F_spec_l4Same [s, s'] σ (fun _ => False) (Ret σ (Bo (eqB l l'))) := by
  have hb := hs.bound
  have hb' := hs'.bound
  refine acall2 fun_spec_l4Same rfl tmps_spec_l4Same rfl fun N B w₀ ρ₀ => ?_
  repeat' (first
    | refine wl_pop rfl (pc_lenRow rfl inI inI) ?_
    | refine wp_seqA ?_
    | refine wp_region_seq ?_
    | refine thru_seq_next ?_
    | refine thru_seq_ret ?_
    | refine wp_skipA ?_
    | refine wp_retA ?_
    | refine wp_blockA ?_
    | refine wl_nil ?_
    | refine wl_pop rfl (po_move rfl) ?_
    | refine wl_pop rfl (po_assign rfl) ?_
    | refine wl_pop rfl (po_binOp rfl rfl rfl) ?_
    | refine wp_condNP rfl (fun _ => ?_) (fun _ => ?_)
    | refine at_ret (res1 rfl rfl) ?_
    | fail)
  · refine ret_ inI (congrArg Bo (eqB_ne ?_).symm)
    rintro rfl; simp_all
  rename_i hl
  have hl' : l.length = l'.length := by omega
  refine wc_loop [(0, _), (1, _)] (fun k : Nat => [(5, I k)]) (fun k σ' => k ≤ l.length ∧ l.take k = l'.take k ∧ LeS σ σ') (fun k => l.length - k) 0 ⟨Nat.zero_le _, rfl, inI⟩ (by repeat' (first | exact sub_nil | refine sub_cons rfl ?_ | refine sub_int rfl (by first | rfl | omega | (push_cast; omega) | simp) ?_ | refine sub_eq rfl (by assumption) ?_)) ?_
  rintro k σ' ⟨hk, htk, hg⟩
  have := hg.grow
  repeat' (first
    | refine wl_pop rfl (pc_lenRow rfl inI inI) ?_
    | refine wp_seqA ?_
    | refine wp_region_seq ?_
    | refine thru_seq_next ?_
    | refine thru_seq ?_
    | refine exit_here ?_
    | refine wp_skipA ?_
    | refine wp_retA ?_
    | refine wp_exitA ?_
    | refine wp_blockA ?_
    | refine wl_nil ?_
    | refine wl_pop rfl (po_move rfl) ?_
    | refine wl_pop rfl (po_assign rfl) ?_
    | refine wl_pop rfl (po_binOp rfl rfl rfl) ?_
    | refine wp_condP rfl (fun _ => ?_) (fun _ => ?_)
    | refine at_ret (res1 rfl rfl) ?_
    | fail)
  rotate_left
  · refine ret_ inI (congrArg Bo ?_)
    have : k = l.length := by omega
    subst this
    rw [List.take_length, List.take_of_length_le (by omega)] at htk
    rw [htk, eqB_self]
  have hk' : k < l.length := by omega
  have hk2 : k < l'.length := by omega
  refine wc_drawn [] mixed_ rfl ?_
  all_goals refine da_takeC 0 rfl rfl (by kernel_rfl) (by first | exact po_move rfl | fail) ?_
  all_goals refine da_takeC 1 rfl rfl (by kernel_rfl) (by first | exact po_move rfl | fail) ?_
  all_goals refine da_takeC 2 rfl rfl (by kernel_rfl) (by first | exact pc_indexRow rfl rfl inI inI inI (by omega) | fail) ?_
  all_goals refine da_takeC 3 rfl rfl (by kernel_rfl) (by first | exact pc_ldNat rfl inI inI (by omega) inI | fail) ?_
  all_goals refine da_takeC 4 rfl rfl (by kernel_rfl) (by first | exact po_move rfl | fail) ?_
  all_goals refine da_takeC 5 rfl rfl (by kernel_rfl) (by first | exact po_move rfl | fail) ?_
  all_goals refine da_takeC 6 rfl rfl (by kernel_rfl) (by first | exact pc_indexRow rfl rfl inI inI inI (by omega) | fail) ?_
  all_goals refine da_takeC 7 rfl rfl (by kernel_rfl) (by first | exact pc_ldNat rfl inI inI (by omega) inI | fail) ?_
  all_goals refine da_takeC 8 rfl rfl (by kernel_rfl) (by first | exact po_binOp rfl rfl rfl | fail) ?_
  all_goals refine da_done (by kernel_rfl) ?_
  repeat' (first
    | refine wp_seqA ?_
    | refine wp_region_seq ?_
    | refine thru_seq_next ?_
    | refine thru_seq_ret ?_
    | refine thru_block_ret ?_
    | refine thru_block_next ?_
    | refine wp_skipA ?_
    | refine wp_retA ?_
    | refine wl_nil ?_
    | refine wl_pop rfl (po_move rfl) ?_
    | refine wl_pop rfl (po_assign rfl) ?_
    | refine wl_pop rfl (pc_add rfl rfl (by omega) (by omega)) ?_
    | refine wp_condNP rfl (fun _ => ?_) (fun _ => ?_)
    | refine at_ret (res1 rfl rfl) ?_
    | fail)
  · rename_i he
    refine ret_ inI (congrArg Bo (eqB_ne ?_).symm)
    rintro rfl
    exact he rfl
  · rename_i he
    have he' : l.getD k 0 = l'.getD k 0 := by omega
    exact ⟨k + 1, by omega, ⟨hk', take_eq_succ htk hk' hk2 he', inI⟩, (by repeat' (first | exact sub_nil | refine sub_cons rfl ?_ | refine sub_int rfl (by first | rfl | omega | (push_cast; omega) | simp) ?_ | refine sub_eq rfl (by assumption) ?_))⟩
end
end Go.Proofs.YthbodgnoadlbcaaGreatDoor.Asl
