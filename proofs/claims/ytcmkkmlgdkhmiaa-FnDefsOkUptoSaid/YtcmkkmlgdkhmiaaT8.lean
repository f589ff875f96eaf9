/- The free names of a term. -/
import Derived.Test.YtcmkkmlgdkhmiaaBB
import Derived.Test.YtcmkkmlgdkhmiaaT7
namespace Go.Proofs.Ytcmkkmlgdkhmiaa.Asl
open Go.RowKit
set_option linter.unusedVariables false
attribute [local irreducible] WP WL andThen inBlock noGoto atEnd ACall DA DL PO Hold actB inB nodeOk
set_option maxHeartbeats 4000000

mutual
def Tm.fr (k : Nat) : Tm → Bool | .node op n ps => if op = 4 ∧ n = (k : Int) then false else Tm.frs k ps || decide (op = 1 ∧ n ≠ 0 ∧ max n (-n) - 1 = (k : Int))
def Tm.frs (k : Nat) : List Tm → Bool | [] => false | p :: ps => p.fr k || Tm.frs k ps
end
theorem Tm.frs_eq (k : Nat) (ps : List Tm) : Tm.frs k ps = ps.any (Tm.fr k) := by
  induction ps with
  | nil => rfl
  | cons p ps ih => simp [Tm.frs, ih]
theorem Tm.frs_take (q : Nat) {ps : List Tm} {k : Nat} (h : k < ps.length) : Tm.frs q (ps.take (k + 1)) = (Tm.frs q (ps.take k) || ps[k].fr q) := by
  rw [List.take_succ_eq_append_getElem h, Tm.frs_eq, Tm.frs_eq, List.any_append]; simp

/-- An array of four truths. -/
def arr (m : Nat → Bool) : List AV := [Bo (m 0), Bo (m 1), Bo (m 2), Bo (m 3)]
theorem arr_get {m : Nat → Bool} {k : Nat} (h : k < 4) : (arr m)[k]? = some (Bo (m k)) := by
  match k, h with
  | 0, _ | 1, _ | 2, _ | 3, _ => rfl
theorem arr_cut {m : Nat → Bool} {k : Nat} (h : k < 4) : cutL (arr m) k 1 = [Bo (m k)] := by
  match k, h with
  | 0, _ | 1, _ | 2, _ | 3, _ => rfl
theorem arr_set {m : Nat → Bool} {k : Nat} {b : Bool} (h : k < 4) : splice (arr m) k [Bo b] = arr (fun q => if q = k then b else m q) := by
  match k, h with
  | 0, _ | 1, _ | 2, _ | 3, _ => rfl
theorem arr_ext {m m' : Nat → Bool} (h : ∀ k, k < 4 → m k = m' k) : arr m = arr m' := by
  simp [arr, h 0 (by omega), h 1 (by omega), h 2 (by omega), h 3 (by omega)]
theorem arr_ones (m : Nat → Bool) : Ones (arr m) := by unfold arr; infer_instance
abbrev Arr (m : Nat → Bool) : Ob := ⟨.own, 1, arr m, []⟩
theorem Has.arr {σ : Store} {j : Nat} {m m' : Nat → Bool} (h : Has σ j (Arr m)) (e : ∀ k, k < 4 → m k = m' k) : Has σ j (Arr m') := ⟨by have := h.get; rwa [show Arr m = Arr m' from by simp only [Arr, arr_ext e]] at this⟩
theorem arr_at {σ : Store} {i : Nat} {m : Nat → Bool} (h : Has σ i (Arr m)) {k : Nat} (hk : k < 4) : At σ i k 1 [Bo (m k)] := ⟨_, h.get, .inr rfl, by rw [cut_cutL, arr_cut hk], rfl⟩
theorem arr_at4 {σ : Store} {i : Nat} {m : Nat → Bool} (h : Has σ i (Arr m)) : At σ i 0 4 (arr m) := ⟨_, h.get, .inr rfl, rfl, rfl⟩

section
variable {base : Nat}
theorem c_nameOf (σ : Store) (a : Int) (h0 : -4 ≤ a) (h1 : a ≤ 4) (h2 : a ≠ 0) : ACall Try.prog base F_impl_nameOf [I a] σ (fun _ => False) (Ret σ (I ((max a (-a) - 1).toNat : Nat))) := by
  refine acall1 fun_impl_nameOf rfl tmps_impl_nameOf rfl fun N B w₀ ρ₀ => ?_
  repeat' (first
    | refine wl_pop rfl (pc_neg rfl (by omega) (by omega)) ?_
    | refine wp_seqA ?_
    | refine wp_region_seq ?_
    | refine thru_seq_next ?_
    | refine wp_retA ?_
    | refine wl_nil ?_
    | refine wl_pop rfl (po_move rfl) ?_
    | refine wl_pop rfl (po_assign rfl) ?_
    | refine wl_pop rfl (pc_sub rfl rfl (by omega) (by omega)) ?_
    | refine wl_pop rfl (pc_max rfl rfl) ?_
    | refine at_ret (res1 rfl rfl) ?_
    | fail)
  refine ret_ inferInstance (congrArg I ?_)
  omega
theorem c_l1Name (σ : Store) (a : Int) (h0 : -1000 ≤ a) (h1 : a ≤ 1000) : ACall Try.prog base F_spec_l1Name [I a] σ (fun _ => False) (Ret σ (I (max a (-a) - 1))) := by
  refine acall1 fun_spec_l1Name rfl tmps_spec_l1Name rfl fun N B w₀ ρ₀ => ?_
  repeat' (first
    | refine wl_pop rfl (pc_neg rfl (by omega) (by omega)) ?_
    | refine wp_seqA ?_
    | refine wp_region_seq ?_
    | refine thru_seq_next ?_
    | refine wp_retA ?_
    | refine wl_nil ?_
    | refine wl_pop rfl (po_move rfl) ?_
    | refine wl_pop rfl (po_assign rfl) ?_
    | refine wl_pop rfl (pc_sub rfl rfl (by omega) (by omega)) ?_
    | refine wl_pop rfl (pc_max rfl rfl) ?_
    | refine at_ret (res1 rfl rfl) ?_
    | exact ret_ inferInstance rfl
    | fail)

theorem c_l2Free_of {op n : Int} {ps : List Tm} (q : Nat) (hs0 : (Tm.node op n ps).shape = true) (h : ∀ p ∈ ps, p.shape = true → ∀ (σ : Store) (s : AV) [RTs σ s p.ps], ACall Try.prog base F_spec_l2Free [.agg [I p.op, I p.n, s], I q] σ (fun _ => False) (Ret σ (Bo (p.fr q))))
    (σ : Store) (s : AV) [hs : RTs σ s ps] : ACall Try.prog base F_spec_l2Free [.agg [I op, I n, s], I q] σ (fun _ => False) (Ret σ (Bo ((Tm.node op n ps).fr q))) := by
  have hb := hs.bound
  have := hs.one
  obtain ⟨hno, hps⟩ := Tm.shape_node hs0
  rw [nodeOk_iff] at hno
  refine acall2 fun_spec_l2Free rfl tmps_spec_l2Free rfl fun N B w₀ ρ₀ => ?_
  repeat' (first
    | refine wc_holdR 1 ?_
    | refine wp_seqA ?_
    | refine wp_region_seq ?_
    | refine thru_seq_next ?_
    | refine wl_nil ?_
    | refine wl_pop rfl (po_assign rfl) ?_
    | (refine wc_boxA rfl inferInstance rfl ?_; intro _ _ _ _ _)
    | fail)
  rename_i i σ₁ g1 n1 h1
  refine wc_cut (ι := Bool) [(1, I q), (2, .pt i 0)] (fun b => [(14, Bo b)]) (fun b σ' => LeS σ₁ σ' ∧ (b = true ↔ op = 4 ∧ n = (q : Int))) ?_ ?_
  · repeat' (first
      | refine wp_region_seq ?_
      | refine thru_seq_next ?_
      | refine wl_nil ?_
      | refine wl_pop rfl (po_move rfl) ?_
      | refine wl_pop rfl (po_binOp rfl rfl rfl) ?_
      | refine wl_pop rfl (po_fieldAddr rfl inferInstance) ?_
      | refine wc_load1 rfl inferInstance (at_has (.inl rfl) rfl rfl) rfl ?_
      | refine wl_pop rfl (po_pick rfl rfl) ?_
      | refine wc_guardT_true rfl rfl rfl ?_
      | refine wc_guardF_true rfl rfl rfl rfl ?_
      | refine wc_guardP_true rfl rfl rfl rfl (fun _ => ?_) (fun _ => ?_)
      | fail)
    all_goals refine ⟨_, ⟨inferInstance, ?_⟩, sub_cons rfl (sub_cons rfl (sub_cons rfl sub_nil))⟩
    all_goals simp_all
  rintro b σ₂ ⟨hg, hbq⟩
  have := hg.grow
  repeat' (first
    | refine wp_seqA ?_
    | refine wp_region_seq ?_
    | refine thru_seq_next ?_
    | refine thru_seq_ret ?_
    | refine wp_skipA ?_
    | refine wp_retA ?_
    | refine wp_blockA ?_
    | refine wl_nil ?_
    | refine wl_pop rfl (po_assign rfl) ?_
    | refine wp_condA rfl (fun _ => ?_) (fun _ => ?_)
    | refine at_ret (res1 rfl rfl) ?_
    | fail)
  · rename_i hbt
    refine ret_ inferInstance (congrArg Bo ?_)
    simp only [Tm.fr]; rw [if_pos (hbq.mp hbt)]
  rename_i hbf
  have hnq : ¬ (op = 4 ∧ n = (q : Int)) := by rw [← hbq]; simp [hbf]
  refine wc_loop [(1, I q), (2, .pt i 0)] (fun k : Nat => [(5, I k)]) (fun k σ' => k ≤ ps.length ∧ Tm.frs q (ps.take k) = false ∧ LeS σ₁ σ') (fun k => ps.length - k) 0 ⟨Nat.zero_le _, by simp [Tm.frs], inferInstance⟩ (sub_int rfl (by simp) (sub_cons rfl (sub_cons rfl sub_nil))) ?_
  rintro k σ' ⟨hk, hf, hg'⟩
  have := hg'.grow
  repeat' (first
    | refine wc_holdR 8 ?_
    | refine wp_seqA ?_
    | refine wp_region_seq ?_
    | refine thru_seq_next ?_
    | refine thru_seq ?_
    | refine exit_here ?_
    | refine wp_skipA ?_
    | refine wp_exitA ?_
    | refine wp_blockA ?_
    | refine wl_nil ?_
    | refine wl_pop rfl (po_move rfl) ?_
    | refine wl_pop rfl (po_binOp rfl rfl rfl) ?_
    | refine wl_pop rfl (po_fieldAddr rfl inferInstance) ?_
    | refine wc_load1 rfl inferInstance (at_has (.inl rfl) rfl rfl) rfl ?_
    | refine wp_condP rfl (fun _ => ?_) (fun _ => ?_)
    | refine wl_pop rfl (pc_lenT rfl inferInstance inferInstance) ?_
    | fail)
  rotate_left
  · obtain rfl : k = ps.length := by omega
    rw [List.take_length] at hf
    have hfin : (Tm.node op n ps).fr q = decide (op = 1 ∧ n ≠ 0 ∧ max n (-n) - 1 = (q : Int)) := by
      simp only [Tm.fr]; rw [if_neg hnq, hf, Bool.false_or]
    refine hold_go ?_
    repeat' (first
      | (refine wc_callR rfl inferInstance rfl (c_l1Name _ _ (by omega) (by omega)) rfl ?_; intro _ _)
      | refine wp_region_seq ?_
      | refine thru_seq_next ?_
      | refine wp_retA ?_
      | refine wl_nil ?_
      | refine wl_pop rfl (po_move rfl) ?_
      | refine wl_pop rfl (po_assign rfl) ?_
      | refine wl_pop rfl (po_binOp rfl rfl rfl) ?_
      | refine wl_pop rfl (po_fieldAddr rfl inferInstance) ?_
      | refine wc_load1 rfl inferInstance (at_has (.inl rfl) rfl rfl) rfl ?_
      | refine wl_pop rfl (po_pick rfl rfl) ?_
      | refine wc_guardT_true rfl rfl rfl ?_
      | refine wc_guardF_true rfl rfl rfl rfl ?_
      | refine wc_guardP_true rfl rfl rfl rfl (fun _ => ?_) (fun _ => ?_)
      | refine wc_guardNP_true rfl rfl rfl rfl (fun _ => ?_) (fun _ => ?_)
      | refine at_ret (res1 rfl rfl) ?_
      | fail)
    all_goals refine ret_ inferInstance (congrArg Bo (Eq.trans (Bool.eq_iff_iff.mpr ?_) hfin.symm))
    all_goals simp only [decide_eq_true_eq, Bool.false_eq_true, beq_iff_eq]
    all_goals first | omega | simp [*]
  have hk' : k < ps.length := by omega
  obtain ⟨id, off, s', rfl, hat, hrs⟩ := (inferInstance : RTs σ' s ps).part hk'
  repeat' (first
    | (refine wc_callR rfl inferInstance rfl (h _ (List.getElem_mem hk') (hps _ (List.getElem_mem hk')) _ _) rfl ?_; intro _ _)
    | refine wp_seqA ?_
    | refine wp_region_seq ?_
    | refine thru_seq_next ?_
    | refine thru_seq_ret ?_
    | refine thru_block_ret ?_
    | refine thru_block_next ?_
    | refine wp_skipA ?_
    | refine wp_retA ?_
    | refine wl_nil ?_
    | refine wl_pop rfl (po_move rfl) ?_
    | refine wl_pop rfl (po_assign rfl) ?_
    | refine wl_pop rfl (pc_add rfl rfl (by omega) (by omega)) ?_
    | refine wl_pop rfl (pc_indexAddr rfl rfl inferInstance inferInstance (by omega)) ?_
    | refine wc_loadn rfl inferInstance inferInstance rfl ?_
    | refine wp_condA rfl (fun _ => ?_) (fun _ => ?_)
    | refine at_ret (res1 rfl rfl) ?_
    | fail)
  · rename_i hp
    refine ret_ inferInstance (congrArg Bo ?_)
    have : Tm.frs q ps = true := by rw [Tm.frs_eq, List.any_eq_true]; exact ⟨_, List.getElem_mem hk', hp⟩
    simp only [Tm.fr]; rw [if_neg hnq, this, Bool.true_or]
  · rename_i hp
    exact ⟨k + 1, by omega, ⟨hk', by rw [Tm.frs_take q hk', hf, hp]; rfl, inferInstance⟩, sub_int rfl (by simp) (sub_cons rfl (sub_cons rfl sub_nil))⟩
theorem c_l2Free (q : Nat) (t : Tm) : t.shape = true → ∀ (σ : Store) (s : AV) [RTs σ s t.ps], ACall Try.prog base F_spec_l2Free [.agg [I t.op, I t.n, s], I q] σ (fun _ => False) (Ret σ (Bo (t.fr q))) :=
  Tm.ind (P := fun t => t.shape = true → ∀ (σ : Store) (s : AV) [RTs σ s t.ps], ACall Try.prog base F_spec_l2Free [.agg [I t.op, I t.n, s], I q] σ (fun _ => False) (Ret σ (Bo (t.fr q))))
    (fun op n ps ih hs => c_l2Free_of q hs ih) t

end
end Go.Proofs.Ytcmkkmlgdkhmiaa.Asl
