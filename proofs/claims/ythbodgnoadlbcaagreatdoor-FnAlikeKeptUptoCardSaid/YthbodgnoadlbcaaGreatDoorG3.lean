/- Which graphs are ones. -/
import Derived.Test.YthbodgnoadlbcaaGreatDoorGG
namespace Go.Proofs.YthbodgnoadlbcaaGreatDoor.Asl
open Go.RowKit Go.Proofs.YthbodgnoadlbcaaGreatDoorW.PrintLast
set_option linter.unusedVariables false
attribute [local irreducible] WP WL andThen inBlock noGoto atEnd ACall DA DL PO Hold
set_option maxHeartbeats 4000000

def mcmp (m n : Mv) : Int := if mlt m n = true then -1 else if mlt n m = true then 1 else 0
def icmp (a b : Int) : Int := if a < b then -1 else if b < a then 1 else 0
theorem mcmp_neg {m n : Mv} : mcmp m n < 0 ↔ mlt m n = true := by
  unfold mcmp
  split
  · rename_i h; simp [h]
  · rename_i h
    simp only [h]
    split <;> simp
theorem mcmp_ge {m n : Mv} : mcmp m n ≥ 0 ↔ ¬ mlt m n = true := by rw [← mcmp_neg]; omega
def RowTo (n : Nat) (l : List Mv) (k : Nat) : Prop := ∀ j, j < k → (-4 ≤ (l.getD j (0, 0)).1 ∧ (l.getD j (0, 0)).1 ≤ 4) ∧ 0 ≤ (l.getD j (0, 0)).2 ∧ (l.getD j (0, 0)).2 < n ∧ (0 < j → mlt (l.getD (j - 1) (0, 0)) (l.getD j (0, 0)) = true)
theorem row_iff {n : Nat} {l : List Mv} : RowTo n l l.length ↔ (∀ m ∈ l, (-4 ≤ m.1 ∧ m.1 ≤ 4) ∧ 0 ≤ m.2 ∧ m.2 < n) ∧ Srt l := by
  have hg : ∀ j (h : j < l.length), l.getD j (0, 0) = l[j] := fun j h => by simp [List.getD_eq_getElem?_getD, h]
  constructor
  · intro h
    refine ⟨fun m hm => ?_, srt_get.mpr fun j a b ha hb => ?_⟩
    · obtain ⟨j, hj, rfl⟩ := List.getElem_of_mem hm
      have := h j hj
      rw [hg j hj] at this; exact ⟨this.1, this.2.1, this.2.2.1⟩
    · have hj : j + 1 < l.length := by
        rcases Nat.lt_or_ge (j + 1) l.length with h1 | h1
        · exact h1
        · rw [List.getElem?_eq_none h1] at hb; cases hb
      have := (h (j + 1) hj).2.2.2 (by omega)
      rw [hg _ hj, Nat.add_sub_cancel, hg j (by omega)] at this
      rw [List.getElem?_eq_getElem hj] at hb
      rw [List.getElem?_eq_getElem (by omega)] at ha
      cases ha; cases hb; exact this
  · rintro ⟨h1, h2⟩ j hj
    have := h1 l[j] (List.getElem_mem hj)
    rw [hg j hj]
    refine ⟨this.1, this.2.1, this.2.2, fun h0 => ?_⟩
    rw [hg (j - 1) (by omega)]
    refine srt_get.mp h2 (j - 1) _ _ (List.getElem?_eq_getElem (by omega)) ?_
    rw [show j - 1 + 1 = j by omega]; exact List.getElem?_eq_getElem hj
def GTo (g : Gr) (k : Nat) : Prop := ∀ s, s < k → RowTo g.length (g.getD s []) (g.getD s []).length
theorem gok_iff {g : Gr} : GOk g ↔ (1 ≤ g.length ∧ g.length ≤ 60) ∧ GTo g g.length := by
  constructor
  · intro h
    refine ⟨⟨h.pos, h.most⟩, fun s hs => ?_⟩
    have hm := rowOf_mem hs
    exact row_iff.mpr ⟨h.moves _ hm, h.srt _ hm⟩
  · rintro ⟨⟨h1, h2⟩, h3⟩
    refine ⟨h1, h2, fun l hl => ?_, fun l hl => ?_⟩ <;> obtain ⟨s, hs, rfl⟩ := List.getElem_of_mem hl
    · have := (row_iff.mp (h3 s hs)).1
      simpa [List.getD_eq_getElem?_getD, hs] using this
    · have := (row_iff.mp (h3 s hs)).2
      simpa [List.getD_eq_getElem?_getD, hs] using this
theorem not_gok {g : Gr} {s k : Nat} (hs : s < g.length) (hk : k < (g.getD s []).length) (h : ¬ ((-4 ≤ ((g.getD s []).getD k (0, 0)).1 ∧ ((g.getD s []).getD k (0, 0)).1 ≤ 4) ∧ 0 ≤ ((g.getD s []).getD k (0, 0)).2 ∧ ((g.getD s []).getD k (0, 0)).2 < g.length ∧ (0 < k → mlt ((g.getD s []).getD (k - 1) (0, 0)) ((g.getD s []).getD k (0, 0)) = true))) : ¬ GOk g :=
  fun hg => h ((gok_iff.mp hg).2 s hs k hk)
theorem rowTo_succ {n : Nat} {l : List Mv} {k : Nat} (h : RowTo n l k) (h1 : -4 ≤ (l.getD k (0, 0)).1 ∧ (l.getD k (0, 0)).1 ≤ 4) (h2 : 0 ≤ (l.getD k (0, 0)).2) (h3 : (l.getD k (0, 0)).2 < n) (h4 : 0 < k → mlt (l.getD (k - 1) (0, 0)) (l.getD k (0, 0)) = true) : RowTo n l (k + 1) := by
  intro j hj
  by_cases e : j = k
  · subst e; exact ⟨h1, h2, h3, h4⟩
  · exact h j (by omega)
theorem gTo_succ {g : Gr} {k : Nat} (h : GTo g k) (h1 : RowTo g.length (g.getD k []) (g.getD k []).length) : GTo g (k + 1) := by
  intro j hj
  by_cases e : j = k
  · subst e; exact h1
  · exact h j (by omega)

section
variable {base : Nat}
theorem cg_ActOk (σ : Store) (a : Int) : ACall Tryz.prog base F_impl_ActOk [I a] σ (fun _ => False) (Ret σ (Bo (decide (-4 ≤ a ∧ a ≤ 4)))) := by
  refine acall1 fun_impl_ActOk rfl tmps_impl_ActOk rfl fun N B w₀ ρ₀ => ?_
  repeat' (first
    | refine wp_seqA ?_
    | refine wp_region_seq ?_
    | refine thru_seq_next ?_
    | refine wp_retA ?_
    | refine wl_nil ?_
    | refine wl_pop rfl (po_move rfl) ?_
    | refine wl_pop rfl (po_assign rfl) ?_
    | refine wl_pop rfl (po_binOp rfl rfl rfl) ?_
    | refine wl_pop rfl (po_pick rfl rfl) ?_
    | refine wc_guardT_true rfl rfl rfl ?_
    | refine wc_guardF_true rfl rfl rfl rfl ?_
    | refine wc_guardP_true rfl rfl rfl rfl (fun _ => ?_) (fun _ => ?_)
    | refine at_ret (res1 rfl rfl) ?_
    | fail)
  all_goals (refine ret_ inI (congrArg Bo (Bool.eq_iff_iff.mpr ?_)); simp; try omega)
theorem cg_l6In (σ : Store) (a b c : Int) : ACall Tryz.prog base F_spec_l6In [I a, I b, I c] σ (fun _ => False) (Ret σ (Bo (decide (b ≤ a ∧ a ≤ c)))) := by
  refine acall3 fun_spec_l6In rfl tmps_spec_l6In rfl fun N B w₀ ρ₀ => ?_
  repeat' (first
    | refine wp_seqA ?_
    | refine wp_region_seq ?_
    | refine thru_seq_next ?_
    | refine wp_retA ?_
    | refine wl_nil ?_
    | refine wl_pop rfl (po_move rfl) ?_
    | refine wl_pop rfl (po_assign rfl) ?_
    | refine wl_pop rfl (po_binOp rfl rfl rfl) ?_
    | refine wl_pop rfl (po_pick rfl rfl) ?_
    | refine wc_guardT_true rfl rfl rfl ?_
    | refine wc_guardF_true rfl rfl rfl rfl ?_
    | refine wc_guardP_true rfl rfl rfl rfl (fun _ => ?_) (fun _ => ?_)
    | refine at_ret (res1 rfl rfl) ?_
    | fail)
  all_goals (refine ret_ inI (congrArg Bo (Bool.eq_iff_iff.mpr ?_)); simp; try omega)
theorem cg_sActOk (σ : Store) (a : Int) : ACall Tryz.prog base F_spec_ActOk [I a] σ (fun _ => False) (Ret σ (Bo (decide (-4 ≤ a ∧ a ≤ 4)))) := by
  refine acall1 fun_spec_ActOk rfl tmps_spec_ActOk rfl fun N B w₀ ρ₀ => ?_
  repeat' (first
    | (refine wc_callR rfl inI rfl (cg_l6In _ _ _ _) rfl ?_; intro _ _)
    | refine wp_seqA ?_
    | refine wp_region_seq ?_
    | refine thru_seq_next ?_
    | refine wp_retA ?_
    | refine wl_nil ?_
    | refine wl_pop rfl (po_move rfl) ?_
    | refine wl_pop rfl (po_assign rfl) ?_
    | refine at_ret (res1 rfl rfl) ?_
    | exact ret_ inI rfl
    | fail)
theorem c_isNaN (σ : Store) (a : Int) : ACall Tryz.prog base F_cmp_isNaN_int [I a] σ (fun _ => False) (Ret σ (Bo false)) := by
  refine acall1 fun_cmp_isNaN_int rfl tmps_cmp_isNaN_int rfl fun N B w₀ ρ₀ => ?_
  repeat' (first
    | refine wp_seqA ?_
    | refine wp_region_seq ?_
    | refine thru_seq_next ?_
    | refine wp_retA ?_
    | refine wl_nil ?_
    | refine wl_pop rfl (po_move rfl) ?_
    | refine wl_pop rfl (po_assign rfl) ?_
    | refine wl_pop rfl (po_binOp rfl rfl rfl) ?_
    | refine at_ret (res1 rfl rfl) ?_
    | fail)
  all_goals (refine ret_ inI (congrArg Bo ?_); simp)
theorem c_Compare (σ : Store) (a b : Int) : ACall Tryz.prog base F_cmp_Compare_int [I a, I b] σ (fun _ => False) (Ret σ (I (icmp a b))) := by
  refine acall2 fun_cmp_Compare_int rfl tmps_cmp_Compare_int rfl fun N B w₀ ρ₀ => ?_
  repeat' (first
    | (refine wc_callR rfl inI rfl (c_isNaN _ _) rfl ?_; intro _ _)
    | refine wp_seqA ?_
    | refine wp_region_seq ?_
    | refine thru_seq_next ?_
    | refine thru_seq_ret ?_
    | refine wp_skipA ?_
    | refine wp_retA ?_
    | refine wl_nil ?_
    | refine wl_pop rfl (po_move rfl) ?_
    | refine wl_pop rfl (po_assign rfl) ?_
    | refine wl_pop rfl (po_binOp rfl rfl rfl) ?_
    | refine wp_condF rfl ?_
    | refine wp_condP rfl (fun _ => ?_) (fun _ => ?_)
    | refine at_ret (res1 rfl rfl) ?_
    | fail)
  all_goals (refine ret_ inI (congrArg I ?_); unfold icmp; split <;> (try split) <;> omega)
theorem c_byMove (σ : Store) (a b a' b' : Int) : ACall Tryz.prog base F_impl_byMove [.agg [I a, I b], .agg [I a', I b']] σ (fun _ => False) (Ret σ (I (mcmp (a, b) (a', b')))) := by
  refine acall2 fun_impl_byMove rfl tmps_impl_byMove rfl fun N B w₀ ρ₀ => ?_
  repeat' (first
    | (refine wc_callR rfl inI rfl (c_Compare _ _ _) rfl ?_; intro _ _)
    | refine wp_seqA ?_
    | refine wp_region_seq ?_
    | refine thru_seq_next ?_
    | refine thru_seq_ret ?_
    | refine wp_skipA ?_
    | refine wp_retA ?_
    | refine wl_nil ?_
    | refine wl_pop rfl (po_move rfl) ?_
    | refine wl_pop rfl (po_assign rfl) ?_
    | refine wl_pop rfl (po_binOp rfl rfl rfl) ?_
    | refine wl_pop rfl (po_fieldAddr rfl inI) ?_
    | refine wc_load1 rfl inI (at_has (.inl rfl) rfl rfl) rfl ?_
    | (refine wc_boxA rfl inI rfl ?_; intro _ _ _ _ _)
    | refine wp_condNP rfl (fun _ => ?_) (fun _ => ?_)
    | refine at_ret (res1 rfl rfl) ?_
    | fail)
  all_goals (refine ret_ inI (congrArg I ?_); unfold mcmp; simp only [mlt_iff]; unfold icmp at *; repeat' (first | omega | split))
theorem c_l3Less (σ : Store) (a b a' b' : Int) : ACall Tryz.prog base F_spec_l3Less [.agg [I a, I b], .agg [I a', I b']] σ (fun _ => False) (Ret σ (Bo (mlt (a, b) (a', b')))) := by
  refine acall2 fun_spec_l3Less rfl tmps_spec_l3Less rfl fun N B w₀ ρ₀ => ?_
  repeat' (first
    | refine wp_seqA ?_
    | refine wp_region_seq ?_
    | refine thru_seq_next ?_
    | refine wp_retA ?_
    | refine wl_nil ?_
    | refine wl_pop rfl (po_move rfl) ?_
    | refine wl_pop rfl (po_assign rfl) ?_
    | refine wl_pop rfl (po_binOp rfl rfl rfl) ?_
    | refine wl_pop rfl (po_fieldAddr rfl inI) ?_
    | refine wc_load1 rfl inI (at_has (.inl rfl) rfl rfl) rfl ?_
    | (refine wc_boxA rfl inI rfl ?_; intro _ _ _ _ _)
    | refine wl_pop rfl (po_pick rfl rfl) ?_
    | refine wc_guardU rfl rfl rfl rfl ?_
    | refine wc_guardT_true rfl rfl rfl ?_
    | refine wc_guardF_true rfl rfl rfl rfl ?_
    | refine wc_guardT_false rfl rfl rfl ?_
    | refine wc_guardF_false rfl rfl rfl rfl ?_
    | refine wc_guardP_true rfl rfl rfl rfl (fun _ => ?_) (fun _ => ?_)
    | refine wc_guardP_false rfl rfl rfl rfl (fun _ => ?_) (fun _ => ?_)
    | refine at_ret (res1 rfl rfl) ?_
    | fail)
  all_goals (refine ret_ inI (congrArg Bo (Bool.eq_iff_iff.mpr ?_)); rw [mlt_iff]; simp; try omega)

theorem c_GraphOk (σ : Store) (s : AV) {ss : List AV} {g : Gr} [hs : RW σ s ss] [hg : RRs σ ss g] : ACall Tryz.prog base F_impl_GraphOk [.agg [s]] σ (fun _ => False) (Ret σ (Bo (prB (GOk g)))) := by
  have hb := hs.bound
  have := hs.one
  have hl := hg.len
  refine acall1 fun_impl_GraphOk rfl tmps_impl_GraphOk rfl fun N B w₀ ρ₀ => ?_
  repeat' (first
    | refine wl_pop rfl (pc_lenRow rfl inI inI) ?_
    | refine wp_seqA ?_
    | refine wp_region_seq ?_
    | refine thru_seq_next ?_
    | refine thru_seq_ret ?_
    | refine wp_skipA ?_
    | refine wp_retA ?_
    | refine wp_blockA ?_
    | refine wl_nil ?_
    | refine wl_pop rfl (po_move rfl) ?_
    | refine wl_pop rfl (po_assign rfl) ?_
    | refine wl_pop rfl (po_binOp rfl rfl rfl) ?_
    | refine wl_pop rfl (po_fieldAddr rfl inI) ?_
    | refine wc_load1 rfl inI (at_has (.inl rfl) rfl rfl) rfl ?_
    | (refine wc_boxA rfl inI rfl ?_; intro _ _ _ _ _)
    | refine wl_pop rfl (po_pick rfl rfl) ?_
    | refine wc_guardT_false rfl rfl rfl ?_
    | refine wc_guardF_false rfl rfl rfl rfl ?_
    | refine wc_guardP_false rfl rfl rfl rfl (fun _ => ?_) (fun _ => ?_)
    | refine wp_condT rfl ?_
    | refine wp_condP rfl (fun _ => ?_) (fun _ => ?_)
    | refine at_ret (res1 rfl rfl) ?_
    | fail)
  · exact ret_ inI (congrArg Bo (prB_false fun (h : GOk g) => by have := h.most; omega).symm)
  rotate_left
  · exact ret_ inI (congrArg Bo (prB_false fun (h : GOk g) => by have := h.pos; omega).symm)
  rename_i i σ₁ g1 n1 h1 hn1 hn60
  refine wc_loop [(1, _), (18, _), (19, _)] (fun k : Nat => [(20, I k)]) (fun k σ' => k ≤ g.length ∧ GTo g k ∧ LeS σ₁ σ') (fun k => g.length - k) 0 ⟨Nat.zero_le _, fun _ h => by omega, inI⟩ (by repeat' (first | exact sub_nil | refine sub_cons rfl ?_ | refine sub_int rfl (by first | rfl | omega | (push_cast; omega) | simp) ?_ | refine sub_eq rfl (by assumption) ?_)) ?_
  rintro k σ' ⟨hk, hto, hle⟩
  have := hle.grow
  repeat' (first
    | refine wl_pop rfl (pc_ldAV rfl inI inI (by omega) inI) ?_
    | refine wl_pop rfl (pc_indexRow rfl rfl inI inI inI (by omega)) ?_
    | refine wl_pop rfl (pc_lenRow rfl inI inI) ?_
    | refine wp_seqA ?_
    | refine wp_region_seq ?_
    | refine thru_seq_next ?_
    | refine thru_seq ?_
    | refine exit_here ?_
    | refine wp_skipA ?_
    | refine wp_retA ?_
    | refine wp_exitA ?_
    | refine wp_blockA ?_
    | refine wl_nil ?_
    | refine wl_pop rfl (po_move rfl) ?_
    | refine wl_pop rfl (po_assign rfl) ?_
    | refine wl_pop rfl (po_binOp rfl rfl rfl) ?_
    | refine wp_condP rfl (fun _ => ?_) (fun _ => ?_)
    | refine at_ret (res1 rfl rfl) ?_
    | fail)
  rotate_left
  · obtain rfl : k = g.length := by omega
    exact ret_ inI (congrArg Bo (prB_true (gok_iff.mpr ⟨by omega, hto⟩)).symm)
  have hk' : k < g.length := by omega
  have hbk := (inI : RW σ' (ss.getD k nilS) (g.getD k [])).bound
  refine wc_loop [(1, _), (4, _), (18, _), (19, _), (20, _), (24, _), (25, _)] (fun q : Nat => [(26, I q)]) (fun q σ'' => q ≤ (g.getD k []).length ∧ RowTo g.length (g.getD k []) q ∧ LeS σ₁ σ'') (fun q => (g.getD k []).length - q) 0 ⟨Nat.zero_le _, fun _ h => by omega, inI⟩ (by repeat' (first | exact sub_nil | refine sub_cons rfl ?_ | refine sub_int rfl (by first | rfl | omega | (push_cast; omega) | simp) ?_ | refine sub_eq rfl (by assumption) ?_)) ?_
  rintro q σ'' ⟨hq, hqto, hle2⟩
  have := hle2.grow
  repeat' (first
    | refine wl_pop rfl (pc_ldMv rfl inI inI (by omega) inI) ?_
    | refine wl_pop rfl (pc_indexRow rfl rfl inI inI inI (by omega)) ?_
    | refine wp_seqA ?_
    | refine wp_region_seq ?_
    | refine thru_seq_next ?_
    | refine thru_seq ?_
    | refine thru_block_next ?_
    | refine exit_here ?_
    | refine wp_skipA ?_
    | refine wp_exitA ?_
    | refine wp_blockA ?_
    | refine wl_nil ?_
    | refine wl_pop rfl (po_move rfl) ?_
    | refine wl_pop rfl (po_assign rfl) ?_
    | refine wl_pop rfl (pc_add rfl rfl (by omega) (by omega)) ?_
    | refine wl_pop rfl (po_binOp rfl rfl rfl) ?_
    | (refine wc_storeA rfl rfl inI inI rfl inI (Nat.le_of_ble_eq_true rfl) (.inr (may_new _)) ?_; intro _ _)
    | (refine wc_allocA (cs := [_, _]) inI rfl inI rfl ?_; intro _ _ _ _ _)
    | refine wp_condP rfl (fun _ => ?_) (fun _ => ?_)
    | fail)
  rotate_left
  · obtain rfl : q = (g.getD k []).length := by omega
    exact ⟨k + 1, by omega, ⟨hk', gTo_succ hto hqto, inI⟩, (by repeat' (first | exact sub_nil | refine sub_cons rfl ?_ | refine sub_int rfl (by first | rfl | omega | (push_cast; omega) | simp) ?_ | refine sub_eq rfl (by assumption) ?_))⟩
  have hq' : q < (g.getD k []).length := by omega
  refine wc_drawn [] mixed_ rfl ?_
  all_goals refine da_takeC 0 rfl rfl (by kernel_rfl) (by first | exact po_fieldAddr rfl inI | fail) ?_
  all_goals refine da_takeC 1 rfl rfl (by kernel_rfl) (by first | exact pc_load1L rfl inI (at_has (.inl rfl) rfl rfl) inI | fail) ?_
  all_goals (first | (refine da_one 2 rfl (by kernel_rfl) (fun _ _ _ _ => ?_); (repeat' (first | (refine wc_callR rfl inI rfl (cg_ActOk _ _) rfl ?_; intro _ _) | fail)); all_goals (first | refine wl_nil ⟨rfl, (by first | exact LeS.len inI | exact App.len (by assumption)), ?_⟩ | trace_state)))
  all_goals refine da_takeC 3 rfl rfl (by kernel_rfl) (by first | exact po_not rfl | fail) ?_
  all_goals refine da_takeC 4 rfl rfl (by kernel_rfl) (by first | exact po_move rfl | fail) ?_
  all_goals (first | refine da_onC 5 rfl rfl rfl rfl rfl (by kernel_rfl) (by first | exact po_fieldAddr rfl inI | fail) ?_ | refine da_offC 5 rfl rfl rfl rfl rfl rfl (by kernel_rfl) ?_ | refine da_offU 5 rfl rfl rfl rfl rfl (by kernel_rfl) ?_ | ((first | refine da_caseP (t := 35) rfl (fun _ => ?_) (fun _ => ?_) | refine da_caseNP (t := 35) rfl (fun _ => ?_) (fun _ => ?_) | refine da_caseEq (t := 35) rfl (fun _ => ?_) (fun _ => ?_) | refine da_caseNe (t := 35) rfl (fun _ => ?_) (fun _ => ?_) | refine da_caseNB (t := 35) rfl (fun _ => ?_) (fun _ => ?_) | refine da_case (t := 35) rfl (fun _ => ?_) (fun _ => ?_)) <;> (first | refine da_onC 5 rfl rfl rfl rfl rfl (by kernel_rfl) (by first | exact po_fieldAddr rfl inI | fail) ?_ | refine da_offC 5 rfl rfl rfl rfl rfl rfl (by kernel_rfl) ?_ | refine da_offU 5 rfl rfl rfl rfl rfl (by kernel_rfl) ?_)))
  all_goals (first | refine da_onC 6 rfl rfl rfl rfl rfl (by kernel_rfl) (by first | exact pc_load1L rfl inI (at_has (.inl rfl) rfl rfl) inI | fail) ?_ | refine da_offC 6 rfl rfl rfl rfl rfl rfl (by kernel_rfl) ?_ | refine da_offU 6 rfl rfl rfl rfl rfl (by kernel_rfl) ?_ | ((first | refine da_caseP (t := 35) rfl (fun _ => ?_) (fun _ => ?_) | refine da_caseNP (t := 35) rfl (fun _ => ?_) (fun _ => ?_) | refine da_caseEq (t := 35) rfl (fun _ => ?_) (fun _ => ?_) | refine da_caseNe (t := 35) rfl (fun _ => ?_) (fun _ => ?_) | refine da_caseNB (t := 35) rfl (fun _ => ?_) (fun _ => ?_) | refine da_case (t := 35) rfl (fun _ => ?_) (fun _ => ?_)) <;> (first | refine da_onC 6 rfl rfl rfl rfl rfl (by kernel_rfl) (by first | exact pc_load1L rfl inI (at_has (.inl rfl) rfl rfl) inI | fail) ?_ | refine da_offC 6 rfl rfl rfl rfl rfl rfl (by kernel_rfl) ?_ | refine da_offU 6 rfl rfl rfl rfl rfl (by kernel_rfl) ?_)))
  all_goals (first | refine da_onC 7 rfl rfl rfl rfl rfl (by kernel_rfl) (by first | exact po_binOp rfl rfl rfl | fail) ?_ | refine da_offC 7 rfl rfl rfl rfl rfl rfl (by kernel_rfl) ?_ | refine da_offU 7 rfl rfl rfl rfl rfl (by kernel_rfl) ?_ | ((first | refine da_caseP (t := 35) rfl (fun _ => ?_) (fun _ => ?_) | refine da_caseNP (t := 35) rfl (fun _ => ?_) (fun _ => ?_) | refine da_caseEq (t := 35) rfl (fun _ => ?_) (fun _ => ?_) | refine da_caseNe (t := 35) rfl (fun _ => ?_) (fun _ => ?_) | refine da_caseNB (t := 35) rfl (fun _ => ?_) (fun _ => ?_) | refine da_case (t := 35) rfl (fun _ => ?_) (fun _ => ?_)) <;> (first | refine da_onC 7 rfl rfl rfl rfl rfl (by kernel_rfl) (by first | exact po_binOp rfl rfl rfl | fail) ?_ | refine da_offC 7 rfl rfl rfl rfl rfl rfl (by kernel_rfl) ?_ | refine da_offU 7 rfl rfl rfl rfl rfl (by kernel_rfl) ?_)))
  all_goals refine da_takeC 8 rfl rfl (by kernel_rfl) (by first | exact po_pick rfl rfl | fail) ?_
  all_goals refine da_takeC 9 rfl rfl (by kernel_rfl) (by first | exact po_move rfl | fail) ?_
  all_goals (first | refine da_onC 10 rfl rfl rfl rfl rfl (by kernel_rfl) (by first | exact po_fieldAddr rfl inI | fail) ?_ | refine da_offC 10 rfl rfl rfl rfl rfl rfl (by kernel_rfl) ?_ | refine da_offU 10 rfl rfl rfl rfl rfl (by kernel_rfl) ?_ | ((first | refine da_caseP (t := 40) rfl (fun _ => ?_) (fun _ => ?_) | refine da_caseNP (t := 40) rfl (fun _ => ?_) (fun _ => ?_) | refine da_caseEq (t := 40) rfl (fun _ => ?_) (fun _ => ?_) | refine da_caseNe (t := 40) rfl (fun _ => ?_) (fun _ => ?_) | refine da_caseNB (t := 40) rfl (fun _ => ?_) (fun _ => ?_) | refine da_case (t := 40) rfl (fun _ => ?_) (fun _ => ?_)) <;> (first | refine da_onC 10 rfl rfl rfl rfl rfl (by kernel_rfl) (by first | exact po_fieldAddr rfl inI | fail) ?_ | refine da_offC 10 rfl rfl rfl rfl rfl rfl (by kernel_rfl) ?_ | refine da_offU 10 rfl rfl rfl rfl rfl (by kernel_rfl) ?_)))
  all_goals (first | refine da_onC 11 rfl rfl rfl rfl rfl (by kernel_rfl) (by first | exact pc_load1L rfl inI (at_has (.inl rfl) rfl rfl) inI | fail) ?_ | refine da_offC 11 rfl rfl rfl rfl rfl rfl (by kernel_rfl) ?_ | refine da_offU 11 rfl rfl rfl rfl rfl (by kernel_rfl) ?_ | ((first | refine da_caseP (t := 40) rfl (fun _ => ?_) (fun _ => ?_) | refine da_caseNP (t := 40) rfl (fun _ => ?_) (fun _ => ?_) | refine da_caseEq (t := 40) rfl (fun _ => ?_) (fun _ => ?_) | refine da_caseNe (t := 40) rfl (fun _ => ?_) (fun _ => ?_) | refine da_caseNB (t := 40) rfl (fun _ => ?_) (fun _ => ?_) | refine da_case (t := 40) rfl (fun _ => ?_) (fun _ => ?_)) <;> (first | refine da_onC 11 rfl rfl rfl rfl rfl (by kernel_rfl) (by first | exact pc_load1L rfl inI (at_has (.inl rfl) rfl rfl) inI | fail) ?_ | refine da_offC 11 rfl rfl rfl rfl rfl rfl (by kernel_rfl) ?_ | refine da_offU 11 rfl rfl rfl rfl rfl (by kernel_rfl) ?_)))
  all_goals (first | refine da_onC 12 rfl rfl rfl rfl rfl (by kernel_rfl) (by first | exact po_fieldAddr rfl inI | fail) ?_ | refine da_offC 12 rfl rfl rfl rfl rfl rfl (by kernel_rfl) ?_ | refine da_offU 12 rfl rfl rfl rfl rfl (by kernel_rfl) ?_ | ((first | refine da_caseP (t := 40) rfl (fun _ => ?_) (fun _ => ?_) | refine da_caseNP (t := 40) rfl (fun _ => ?_) (fun _ => ?_) | refine da_caseEq (t := 40) rfl (fun _ => ?_) (fun _ => ?_) | refine da_caseNe (t := 40) rfl (fun _ => ?_) (fun _ => ?_) | refine da_caseNB (t := 40) rfl (fun _ => ?_) (fun _ => ?_) | refine da_case (t := 40) rfl (fun _ => ?_) (fun _ => ?_)) <;> (first | refine da_onC 12 rfl rfl rfl rfl rfl (by kernel_rfl) (by first | exact po_fieldAddr rfl inI | fail) ?_ | refine da_offC 12 rfl rfl rfl rfl rfl rfl (by kernel_rfl) ?_ | refine da_offU 12 rfl rfl rfl rfl rfl (by kernel_rfl) ?_)))
  all_goals (first | refine da_onC 13 rfl rfl rfl rfl rfl (by kernel_rfl) (by first | exact pc_load1L rfl inI (at_has (.inl rfl) rfl rfl) inI | fail) ?_ | refine da_offC 13 rfl rfl rfl rfl rfl rfl (by kernel_rfl) ?_ | refine da_offU 13 rfl rfl rfl rfl rfl (by kernel_rfl) ?_ | ((first | refine da_caseP (t := 40) rfl (fun _ => ?_) (fun _ => ?_) | refine da_caseNP (t := 40) rfl (fun _ => ?_) (fun _ => ?_) | refine da_caseEq (t := 40) rfl (fun _ => ?_) (fun _ => ?_) | refine da_caseNe (t := 40) rfl (fun _ => ?_) (fun _ => ?_) | refine da_caseNB (t := 40) rfl (fun _ => ?_) (fun _ => ?_) | refine da_case (t := 40) rfl (fun _ => ?_) (fun _ => ?_)) <;> (first | refine da_onC 13 rfl rfl rfl rfl rfl (by kernel_rfl) (by first | exact pc_load1L rfl inI (at_has (.inl rfl) rfl rfl) inI | fail) ?_ | refine da_offC 13 rfl rfl rfl rfl rfl rfl (by kernel_rfl) ?_ | refine da_offU 13 rfl rfl rfl rfl rfl (by kernel_rfl) ?_)))
  all_goals (first | refine da_onC 14 rfl rfl rfl rfl rfl (by kernel_rfl) (by first | exact pc_lenRow rfl inI inI | fail) ?_ | refine da_offC 14 rfl rfl rfl rfl rfl rfl (by kernel_rfl) ?_ | refine da_offU 14 rfl rfl rfl rfl rfl (by kernel_rfl) ?_ | ((first | refine da_caseP (t := 40) rfl (fun _ => ?_) (fun _ => ?_) | refine da_caseNP (t := 40) rfl (fun _ => ?_) (fun _ => ?_) | refine da_caseEq (t := 40) rfl (fun _ => ?_) (fun _ => ?_) | refine da_caseNe (t := 40) rfl (fun _ => ?_) (fun _ => ?_) | refine da_caseNB (t := 40) rfl (fun _ => ?_) (fun _ => ?_) | refine da_case (t := 40) rfl (fun _ => ?_) (fun _ => ?_)) <;> (first | refine da_onC 14 rfl rfl rfl rfl rfl (by kernel_rfl) (by first | exact pc_lenRow rfl inI inI | fail) ?_ | refine da_offC 14 rfl rfl rfl rfl rfl rfl (by kernel_rfl) ?_ | refine da_offU 14 rfl rfl rfl rfl rfl (by kernel_rfl) ?_)))
  all_goals (first | refine da_onC 15 rfl rfl rfl rfl rfl (by kernel_rfl) (by first | exact po_binOp rfl rfl rfl | fail) ?_ | refine da_offC 15 rfl rfl rfl rfl rfl rfl (by kernel_rfl) ?_ | refine da_offU 15 rfl rfl rfl rfl rfl (by kernel_rfl) ?_ | ((first | refine da_caseP (t := 40) rfl (fun _ => ?_) (fun _ => ?_) | refine da_caseNP (t := 40) rfl (fun _ => ?_) (fun _ => ?_) | refine da_caseEq (t := 40) rfl (fun _ => ?_) (fun _ => ?_) | refine da_caseNe (t := 40) rfl (fun _ => ?_) (fun _ => ?_) | refine da_caseNB (t := 40) rfl (fun _ => ?_) (fun _ => ?_) | refine da_case (t := 40) rfl (fun _ => ?_) (fun _ => ?_)) <;> (first | refine da_onC 15 rfl rfl rfl rfl rfl (by kernel_rfl) (by first | exact po_binOp rfl rfl rfl | fail) ?_ | refine da_offC 15 rfl rfl rfl rfl rfl rfl (by kernel_rfl) ?_ | refine da_offU 15 rfl rfl rfl rfl rfl (by kernel_rfl) ?_)))
  all_goals refine da_takeC 16 rfl rfl (by kernel_rfl) (by first | exact po_pick rfl rfl | fail) ?_
  all_goals refine da_takeC 17 rfl rfl (by kernel_rfl) (by first | exact po_move rfl | fail) ?_
  all_goals (first | refine da_onC 18 rfl rfl rfl rfl rfl (by kernel_rfl) (by first | exact po_move rfl | fail) ?_ | refine da_offC 18 rfl rfl rfl rfl rfl rfl (by kernel_rfl) ?_ | refine da_offU 18 rfl rfl rfl rfl rfl (by kernel_rfl) ?_ | ((first | refine da_caseP (t := 48) rfl (fun _ => ?_) (fun _ => ?_) | refine da_caseNP (t := 48) rfl (fun _ => ?_) (fun _ => ?_) | refine da_caseEq (t := 48) rfl (fun _ => ?_) (fun _ => ?_) | refine da_caseNe (t := 48) rfl (fun _ => ?_) (fun _ => ?_) | refine da_caseNB (t := 48) rfl (fun _ => ?_) (fun _ => ?_) | refine da_case (t := 48) rfl (fun _ => ?_) (fun _ => ?_)) <;> (first | refine da_onC 18 rfl rfl rfl rfl rfl (by kernel_rfl) (by first | exact po_move rfl | fail) ?_ | refine da_offC 18 rfl rfl rfl rfl rfl rfl (by kernel_rfl) ?_ | refine da_offU 18 rfl rfl rfl rfl rfl (by kernel_rfl) ?_)))
  all_goals (first | refine da_onC 19 rfl rfl rfl rfl rfl (by kernel_rfl) (by first | exact po_binOp rfl rfl rfl | fail) ?_ | refine da_offC 19 rfl rfl rfl rfl rfl rfl (by kernel_rfl) ?_ | refine da_offU 19 rfl rfl rfl rfl rfl (by kernel_rfl) ?_ | ((first | refine da_caseP (t := 48) rfl (fun _ => ?_) (fun _ => ?_) | refine da_caseNP (t := 48) rfl (fun _ => ?_) (fun _ => ?_) | refine da_caseEq (t := 48) rfl (fun _ => ?_) (fun _ => ?_) | refine da_caseNe (t := 48) rfl (fun _ => ?_) (fun _ => ?_) | refine da_caseNB (t := 48) rfl (fun _ => ?_) (fun _ => ?_) | refine da_case (t := 48) rfl (fun _ => ?_) (fun _ => ?_)) <;> (first | refine da_onC 19 rfl rfl rfl rfl rfl (by kernel_rfl) (by first | exact po_binOp rfl rfl rfl | fail) ?_ | refine da_offC 19 rfl rfl rfl rfl rfl rfl (by kernel_rfl) ?_ | refine da_offU 19 rfl rfl rfl rfl rfl (by kernel_rfl) ?_)))
  all_goals (first | refine da_onC 20 rfl rfl rfl rfl rfl (by kernel_rfl) (by first | exact po_move rfl | fail) ?_ | refine da_offC 20 rfl rfl rfl rfl rfl rfl (by kernel_rfl) ?_ | refine da_offU 20 rfl rfl rfl rfl rfl (by kernel_rfl) ?_ | ((first | refine da_caseP (t := 48) rfl (fun _ => ?_) (fun _ => ?_) | refine da_caseNP (t := 48) rfl (fun _ => ?_) (fun _ => ?_) | refine da_caseEq (t := 48) rfl (fun _ => ?_) (fun _ => ?_) | refine da_caseNe (t := 48) rfl (fun _ => ?_) (fun _ => ?_) | refine da_caseNB (t := 48) rfl (fun _ => ?_) (fun _ => ?_) | refine da_case (t := 48) rfl (fun _ => ?_) (fun _ => ?_)) <;> (first | refine da_onC 20 rfl rfl rfl rfl rfl (by kernel_rfl) (by first | exact po_move rfl | fail) ?_ | refine da_offC 20 rfl rfl rfl rfl rfl rfl (by kernel_rfl) ?_ | refine da_offU 20 rfl rfl rfl rfl rfl (by kernel_rfl) ?_)))
  all_goals (first | refine da_onC 21 rfl rfl rfl rfl rfl (by kernel_rfl) (by first | exact po_move rfl | fail) ?_ | refine da_offC 21 rfl rfl rfl rfl rfl rfl (by kernel_rfl) ?_ | refine da_offU 21 rfl rfl rfl rfl rfl (by kernel_rfl) ?_ | ((first | refine da_caseP (t := 51) rfl (fun _ => ?_) (fun _ => ?_) | refine da_caseNP (t := 51) rfl (fun _ => ?_) (fun _ => ?_) | refine da_caseEq (t := 51) rfl (fun _ => ?_) (fun _ => ?_) | refine da_caseNe (t := 51) rfl (fun _ => ?_) (fun _ => ?_) | refine da_caseNB (t := 51) rfl (fun _ => ?_) (fun _ => ?_) | refine da_case (t := 51) rfl (fun _ => ?_) (fun _ => ?_)) <;> (first | refine da_onC 21 rfl rfl rfl rfl rfl (by kernel_rfl) (by first | exact po_move rfl | fail) ?_ | refine da_offC 21 rfl rfl rfl rfl rfl rfl (by kernel_rfl) ?_ | refine da_offU 21 rfl rfl rfl rfl rfl (by kernel_rfl) ?_)))
  all_goals (first | refine da_onC 22 rfl rfl rfl rfl rfl (by kernel_rfl) (by first | exact po_move rfl | fail) ?_ | refine da_offC 22 rfl rfl rfl rfl rfl rfl (by kernel_rfl) ?_ | refine da_offU 22 rfl rfl rfl rfl rfl (by kernel_rfl) ?_ | ((first | refine da_caseP (t := 51) rfl (fun _ => ?_) (fun _ => ?_) | refine da_caseNP (t := 51) rfl (fun _ => ?_) (fun _ => ?_) | refine da_caseEq (t := 51) rfl (fun _ => ?_) (fun _ => ?_) | refine da_caseNe (t := 51) rfl (fun _ => ?_) (fun _ => ?_) | refine da_caseNB (t := 51) rfl (fun _ => ?_) (fun _ => ?_) | refine da_case (t := 51) rfl (fun _ => ?_) (fun _ => ?_)) <;> (first | refine da_onC 22 rfl rfl rfl rfl rfl (by kernel_rfl) (by first | exact po_move rfl | fail) ?_ | refine da_offC 22 rfl rfl rfl rfl rfl rfl (by kernel_rfl) ?_ | refine da_offU 22 rfl rfl rfl rfl rfl (by kernel_rfl) ?_)))
  all_goals (first | refine da_onC 23 rfl rfl rfl rfl rfl (by kernel_rfl) (by first | exact pc_sub rfl rfl (by omega) (by omega) | fail) ?_ | refine da_offC 23 rfl rfl rfl rfl rfl rfl (by kernel_rfl) ?_ | refine da_offU 23 rfl rfl rfl rfl rfl (by kernel_rfl) ?_ | ((first | refine da_caseP (t := 51) rfl (fun _ => ?_) (fun _ => ?_) | refine da_caseNP (t := 51) rfl (fun _ => ?_) (fun _ => ?_) | refine da_caseEq (t := 51) rfl (fun _ => ?_) (fun _ => ?_) | refine da_caseNe (t := 51) rfl (fun _ => ?_) (fun _ => ?_) | refine da_caseNB (t := 51) rfl (fun _ => ?_) (fun _ => ?_) | refine da_case (t := 51) rfl (fun _ => ?_) (fun _ => ?_)) <;> (first | refine da_onC 23 rfl rfl rfl rfl rfl (by kernel_rfl) (by first | exact pc_sub rfl rfl (by omega) (by omega) | fail) ?_ | refine da_offC 23 rfl rfl rfl rfl rfl rfl (by kernel_rfl) ?_ | refine da_offU 23 rfl rfl rfl rfl rfl (by kernel_rfl) ?_)))
  all_goals (first | refine da_onC 24 rfl rfl rfl rfl rfl (by kernel_rfl) (by first | exact pc_indexRowZ rfl rfl inI inI inI (by omega) (by omega) | fail) ?_ | refine da_offC 24 rfl rfl rfl rfl rfl rfl (by kernel_rfl) ?_ | refine da_offU 24 rfl rfl rfl rfl rfl (by kernel_rfl) ?_ | ((first | refine da_caseP (t := 51) rfl (fun _ => ?_) (fun _ => ?_) | refine da_caseNP (t := 51) rfl (fun _ => ?_) (fun _ => ?_) | refine da_caseEq (t := 51) rfl (fun _ => ?_) (fun _ => ?_) | refine da_caseNe (t := 51) rfl (fun _ => ?_) (fun _ => ?_) | refine da_caseNB (t := 51) rfl (fun _ => ?_) (fun _ => ?_) | refine da_case (t := 51) rfl (fun _ => ?_) (fun _ => ?_)) <;> (first | refine da_onC 24 rfl rfl rfl rfl rfl (by kernel_rfl) (by first | exact pc_indexRowZ rfl rfl inI inI inI (by omega) (by omega) | fail) ?_ | refine da_offC 24 rfl rfl rfl rfl rfl rfl (by kernel_rfl) ?_ | refine da_offU 24 rfl rfl rfl rfl rfl (by kernel_rfl) ?_)))
  all_goals (first | refine da_onC 25 rfl rfl rfl rfl rfl (by kernel_rfl) (by first | exact pc_ldMv rfl inI inI (by omega) inI | fail) ?_ | refine da_offC 25 rfl rfl rfl rfl rfl rfl (by kernel_rfl) ?_ | refine da_offU 25 rfl rfl rfl rfl rfl (by kernel_rfl) ?_ | ((first | refine da_caseP (t := 51) rfl (fun _ => ?_) (fun _ => ?_) | refine da_caseNP (t := 51) rfl (fun _ => ?_) (fun _ => ?_) | refine da_caseEq (t := 51) rfl (fun _ => ?_) (fun _ => ?_) | refine da_caseNe (t := 51) rfl (fun _ => ?_) (fun _ => ?_) | refine da_caseNB (t := 51) rfl (fun _ => ?_) (fun _ => ?_) | refine da_case (t := 51) rfl (fun _ => ?_) (fun _ => ?_)) <;> (first | refine da_onC 25 rfl rfl rfl rfl rfl (by kernel_rfl) (by first | exact pc_ldMv rfl inI inI (by omega) inI | fail) ?_ | refine da_offC 25 rfl rfl rfl rfl rfl rfl (by kernel_rfl) ?_ | refine da_offU 25 rfl rfl rfl rfl rfl (by kernel_rfl) ?_)))
  all_goals (first | refine da_onC 26 rfl rfl rfl rfl rfl (by kernel_rfl) (by first | exact pc_loadnL rfl inI (at_has (cs := [_, _]) (.inl rfl) rfl rfl) inI | fail) ?_ | refine da_offC 26 rfl rfl rfl rfl rfl rfl (by kernel_rfl) ?_ | refine da_offU 26 rfl rfl rfl rfl rfl (by kernel_rfl) ?_ | ((first | refine da_caseP (t := 51) rfl (fun _ => ?_) (fun _ => ?_) | refine da_caseNP (t := 51) rfl (fun _ => ?_) (fun _ => ?_) | refine da_caseEq (t := 51) rfl (fun _ => ?_) (fun _ => ?_) | refine da_caseNe (t := 51) rfl (fun _ => ?_) (fun _ => ?_) | refine da_caseNB (t := 51) rfl (fun _ => ?_) (fun _ => ?_) | refine da_case (t := 51) rfl (fun _ => ?_) (fun _ => ?_)) <;> (first | refine da_onC 26 rfl rfl rfl rfl rfl (by kernel_rfl) (by first | exact pc_loadnL rfl inI (at_has (cs := [_, _]) (.inl rfl) rfl rfl) inI | fail) ?_ | refine da_offC 26 rfl rfl rfl rfl rfl rfl (by kernel_rfl) ?_ | refine da_offU 26 rfl rfl rfl rfl rfl (by kernel_rfl) ?_)))
  all_goals (first | refine da_offC 27 rfl rfl rfl rfl rfl rfl (by kernel_rfl) ?_ | refine da_offU 27 rfl rfl rfl rfl rfl (by kernel_rfl) ?_ | (refine da_one 27 rfl (by kernel_rfl) (fun _ _ _ _ => ?_); (repeat' (first | (refine wc_callR rfl inI rfl (c_byMove _ _ _ _ _) rfl ?_; intro _ _) | refine wc_guardT_true rfl rfl rfl ?_ | fail)); all_goals (first | refine wl_nil ⟨rfl, (by first | exact LeS.len inI | exact App.len (by assumption)), ?_⟩ | trace_state)) | ((first | refine da_caseP (t := 51) rfl (fun _ => ?_) (fun _ => ?_) | refine da_caseNP (t := 51) rfl (fun _ => ?_) (fun _ => ?_) | refine da_caseEq (t := 51) rfl (fun _ => ?_) (fun _ => ?_) | refine da_caseNe (t := 51) rfl (fun _ => ?_) (fun _ => ?_) | refine da_caseNB (t := 51) rfl (fun _ => ?_) (fun _ => ?_) | refine da_case (t := 51) rfl (fun _ => ?_) (fun _ => ?_)) <;> (first | refine da_offC 27 rfl rfl rfl rfl rfl rfl (by kernel_rfl) ?_ | refine da_offU 27 rfl rfl rfl rfl rfl (by kernel_rfl) ?_ | (refine da_one 27 rfl (by kernel_rfl) (fun _ _ _ _ => ?_); (repeat' (first | (refine wc_callR rfl inI rfl (c_byMove _ _ _ _ _) rfl ?_; intro _ _) | refine wc_guardT_true rfl rfl rfl ?_ | fail)); all_goals (first | refine wl_nil ⟨rfl, (by first | exact LeS.len inI | exact App.len (by assumption)), ?_⟩ | trace_state)))))
  all_goals (first | refine da_onC 28 rfl rfl rfl rfl rfl (by kernel_rfl) (by first | exact po_binOp rfl rfl rfl | fail) ?_ | refine da_offC 28 rfl rfl rfl rfl rfl rfl (by kernel_rfl) ?_ | refine da_offU 28 rfl rfl rfl rfl rfl (by kernel_rfl) ?_ | ((first | refine da_caseP (t := 51) rfl (fun _ => ?_) (fun _ => ?_) | refine da_caseNP (t := 51) rfl (fun _ => ?_) (fun _ => ?_) | refine da_caseEq (t := 51) rfl (fun _ => ?_) (fun _ => ?_) | refine da_caseNe (t := 51) rfl (fun _ => ?_) (fun _ => ?_) | refine da_caseNB (t := 51) rfl (fun _ => ?_) (fun _ => ?_) | refine da_case (t := 51) rfl (fun _ => ?_) (fun _ => ?_)) <;> (first | refine da_onC 28 rfl rfl rfl rfl rfl (by kernel_rfl) (by first | exact po_binOp rfl rfl rfl | fail) ?_ | refine da_offC 28 rfl rfl rfl rfl rfl rfl (by kernel_rfl) ?_ | refine da_offU 28 rfl rfl rfl rfl rfl (by kernel_rfl) ?_)))
  all_goals (first | refine da_onC 29 rfl rfl rfl rfl rfl (by kernel_rfl) (by first | exact po_pick rfl rfl | fail) ?_ | refine da_offC 29 rfl rfl rfl rfl rfl rfl (by kernel_rfl) ?_ | refine da_offU 29 rfl rfl rfl rfl rfl (by kernel_rfl) ?_ | ((first | refine da_caseP (t := 48) rfl (fun _ => ?_) (fun _ => ?_) | refine da_caseNP (t := 48) rfl (fun _ => ?_) (fun _ => ?_) | refine da_caseEq (t := 48) rfl (fun _ => ?_) (fun _ => ?_) | refine da_caseNe (t := 48) rfl (fun _ => ?_) (fun _ => ?_) | refine da_caseNB (t := 48) rfl (fun _ => ?_) (fun _ => ?_) | refine da_case (t := 48) rfl (fun _ => ?_) (fun _ => ?_)) <;> (first | refine da_onC 29 rfl rfl rfl rfl rfl (by kernel_rfl) (by first | exact po_pick rfl rfl | fail) ?_ | refine da_offC 29 rfl rfl rfl rfl rfl rfl (by kernel_rfl) ?_ | refine da_offU 29 rfl rfl rfl rfl rfl (by kernel_rfl) ?_)))
  all_goals refine da_takeC 30 rfl rfl (by kernel_rfl) (by first | exact po_pick rfl rfl | fail) ?_
  all_goals refine da_done (by kernel_rfl) ?_
  repeat' (first
    | refine wp_seqA ?_
    | refine wp_region_seq ?_
    | refine thru_seq_next ?_
    | refine thru_seq_ret ?_
    | refine thru_block_ret ?_
    | refine thru_block_next ?_
    | refine wp_skipA ?_
    | refine wp_retA ?_
    | refine wl_nil ?_
    | refine wl_pop rfl (po_move rfl) ?_
    | refine wl_pop rfl (po_assign rfl) ?_
    | refine wl_pop rfl (pc_add rfl rfl (by omega) (by omega)) ?_
    | refine wp_condT rfl ?_
    | refine wp_condF rfl ?_
    | refine wp_condP rfl (fun _ => ?_) (fun _ => ?_)
    | refine at_ret (res1 rfl rfl) ?_
    | fail)
  all_goals have e1 : ((q : Int) - 1).toNat = q - 1 := by omega
  all_goals (try simp only [e1] at *)
  all_goals first
    | exact ret_ inI (congrArg Bo (prB_false (not_gok hk' hq' (fun hh => by first | omega | (have h5 := hh.2.2.2 (by omega); exact absurd h5 (mcmp_ge.mp (by assumption)))))).symm)
    | exact ⟨q + 1, by omega, ⟨hq', rowTo_succ hqto (by omega) (by omega) (by omega) (fun h => by first | omega | exact mcmp_neg.mp (Int.not_le.mp (by assumption))), inI⟩, (by repeat' (first | exact sub_nil | refine sub_cons rfl ?_ | refine sub_int rfl (by first | rfl | omega | (push_cast; omega) | simp) ?_ | refine sub_eq rfl (by assumption) ?_))⟩
end
end Go.Proofs.YthbodgnoadlbcaaGreatDoor.Asl
