/- Which trees are terms. -/
import Derived.Test.YtcmkkmlgdkhmiaaF
import Derived.Test.YtcmkkmlgdkhmiaaT0
namespace Go.Proofs.Ytcmkkmlgdkhmiaa.Asl
open Go.RowKit
set_option linter.unusedVariables false
attribute [local irreducible] WP WL andThen inBlock noGoto atEnd ACall DA PO
set_option maxHeartbeats 4000000

def inB (n lo hi : Int) : Bool := decide (lo ≤ n ∧ n ≤ hi)
def actB (n : Int) : Bool := inB n (-4) 4
def nodeOk (op n : Int) (k : Nat) : Bool :=
  if op = 0 then decide (n = 0 ∧ k = 0) else if op = 1 then actB n && decide (k = 1) else if op = 2 ∨ op = 3 then decide (n = 0 ∧ k = 2)
  else if op = 4 then inB n 0 3 && decide (k = 1) else if op = 5 then inB n 0 2 && decide (k = 0) else false
theorem inB_iff {n a b : Int} : inB n a b = true ↔ a ≤ n ∧ n ≤ b := by simp [inB]
theorem actB_iff {n : Int} : actB n = true ↔ -4 ≤ n ∧ n ≤ 4 := by simp [actB, inB]
theorem nodeOk_iff {op n : Int} {k : Nat} : nodeOk op n k = true ↔ (op = 0 ∧ n = 0 ∧ k = 0) ∨ (op = 1 ∧ (-4 ≤ n ∧ n ≤ 4) ∧ k = 1) ∨ ((op = 2 ∨ op = 3) ∧ n = 0 ∧ k = 2) ∨ (op = 4 ∧ (0 ≤ n ∧ n ≤ 3) ∧ k = 1) ∨ (op = 5 ∧ (0 ≤ n ∧ n ≤ 2) ∧ k = 0) := by
  unfold nodeOk
  split
  · simp; omega
  split
  · simp [actB_iff]; omega
  split
  · simp; omega
  split
  · simp [inB_iff]; omega
  split
  · simp [inB_iff]; omega
  · simp; omega
mutual
def Tm.cnt : Tm → Nat | .node _ _ ps => 1 + Tm.cnts ps
def Tm.cnts : List Tm → Nat | [] => 0 | p :: ps => p.cnt + Tm.cnts ps
end
mutual
def Tm.shape : Tm → Bool | .node op n ps => nodeOk op n ps.length && Tm.shapes ps
def Tm.shapes : List Tm → Bool | [] => true | p :: ps => p.shape && Tm.shapes ps
end
theorem Tm.cnts_append (a b : List Tm) : Tm.cnts (a ++ b) = Tm.cnts a + Tm.cnts b := by
  induction a with
  | nil => simp [Tm.cnts]
  | cons p a ih => simp [Tm.cnts, ih]; omega
theorem Tm.cnts_take {ps : List Tm} {k : Nat} (h : k < ps.length) : Tm.cnts (ps.take (k + 1)) = Tm.cnts (ps.take k) + ps[k].cnt := by
  rw [List.take_succ_eq_append_getElem h, Tm.cnts_append]; simp [Tm.cnts]
theorem Tm.cnts_le {ps : List Tm} (k : Nat) : Tm.cnts (ps.take k) ≤ Tm.cnts ps := by
  have := Tm.cnts_append (ps.take k) (ps.drop k)
  rw [List.take_append_drop] at this; omega
theorem Tm.shapes_eq (ps : List Tm) : Tm.shapes ps = ps.all Tm.shape := by
  induction ps with
  | nil => rfl
  | cons p ps ih => simp [Tm.shapes, ih]
theorem Tm.cnt_pos (t : Tm) : 1 ≤ t.cnt := by cases t; simp [Tm.cnt]

section
variable {base : Nat}
theorem c_ActOk (σ : Store) (a : Int) : ACall Try.prog base F_impl_ActOk [I a] σ (fun _ => False) (Ret σ (Bo (actB a))) := by
  refine acall1 fun_impl_ActOk rfl tmps_impl_ActOk rfl fun N B w₀ ρ₀ => ?_
  repeat' (first
    | refine wp_seqA ?_
    | refine wp_region_seq ?_
    | refine thru_seq_next ?_
    | refine wp_retA ?_
    | refine wl_nil ?_
    | refine wl_pop rfl (po_move rfl) ?_
    | refine wl_pop rfl (po_assign rfl) ?_
    | refine wl_pop rfl (po_binOp rfl rfl rfl) ?_
    | refine wl_pop rfl (po_pick rfl rfl) ?_
    | refine wc_guardT_true rfl rfl rfl ?_
    | refine wc_guardF_true rfl rfl rfl rfl ?_
    | refine wc_guardP_true rfl rfl rfl rfl (fun _ => ?_) (fun _ => ?_)
    | refine at_ret (res1 rfl rfl) ?_
    | fail)
  all_goals (refine ret_ inferInstance (congrArg Bo (Bool.eq_iff_iff.mpr ?_)); simp [actB, inB]; try omega)
theorem c_nameOk (σ : Store) (a : Int) : ACall Try.prog base F_impl_nameOk [I a] σ (fun _ => False) (Ret σ (Bo (inB a 0 3))) := by
  refine acall1 fun_impl_nameOk rfl tmps_impl_nameOk rfl fun N B w₀ ρ₀ => ?_
  repeat' (first
    | refine wp_seqA ?_
    | refine wp_region_seq ?_
    | refine thru_seq_next ?_
    | refine wp_retA ?_
    | refine wl_nil ?_
    | refine wl_pop rfl (po_move rfl) ?_
    | refine wl_pop rfl (po_assign rfl) ?_
    | refine wl_pop rfl (po_binOp rfl rfl rfl) ?_
    | refine wl_pop rfl (po_pick rfl rfl) ?_
    | refine wc_guardT_true rfl rfl rfl ?_
    | refine wc_guardF_true rfl rfl rfl rfl ?_
    | refine wc_guardP_true rfl rfl rfl rfl (fun _ => ?_) (fun _ => ?_)
    | refine at_ret (res1 rfl rfl) ?_
    | fail)
  all_goals (refine ret_ inferInstance (congrArg Bo (Bool.eq_iff_iff.mpr ?_)); simp [inB]; try omega)
theorem c_l6In (σ : Store) (a b c : Int) : ACall Try.prog base F_spec_l6In [I a, I b, I c] σ (fun _ => False) (Ret σ (Bo (inB a b c))) := by
  refine acall3 fun_spec_l6In rfl tmps_spec_l6In rfl fun N B w₀ ρ₀ => ?_
  repeat' (first
    | refine wp_seqA ?_
    | refine wp_region_seq ?_
    | refine thru_seq_next ?_
    | refine wp_retA ?_
    | refine wl_nil ?_
    | refine wl_pop rfl (po_move rfl) ?_
    | refine wl_pop rfl (po_assign rfl) ?_
    | refine wl_pop rfl (po_binOp rfl rfl rfl) ?_
    | refine wl_pop rfl (po_pick rfl rfl) ?_
    | refine wc_guardT_true rfl rfl rfl ?_
    | refine wc_guardF_true rfl rfl rfl rfl ?_
    | refine wc_guardP_true rfl rfl rfl rfl (fun _ => ?_) (fun _ => ?_)
    | refine at_ret (res1 rfl rfl) ?_
    | fail)
  all_goals (refine ret_ inferInstance (congrArg Bo (Bool.eq_iff_iff.mpr ?_)); simp [inB]; try omega)
theorem c_sActOk (σ : Store) (a : Int) : ACall Try.prog base F_spec_ActOk [I a] σ (fun _ => False) (Ret σ (Bo (actB a))) := by
  refine acall1 fun_spec_ActOk rfl tmps_spec_ActOk rfl fun N B w₀ ρ₀ => ?_
  repeat' (first
    | (refine wc_callR rfl inferInstance rfl (c_l6In _ _ _ _) rfl ?_; intro _ _)
    | refine wp_seqA ?_
    | refine wp_region_seq ?_
    | refine thru_seq_next ?_
    | refine wp_retA ?_
    | refine wl_nil ?_
    | refine wl_pop rfl (po_move rfl) ?_
    | refine wl_pop rfl (po_assign rfl) ?_
    | refine at_ret (res1 rfl rfl) ?_
    | exact ret_ inferInstance rfl
    | fail)

/-- Some of the terms are as a function says. -/
theorem c_IndexFunc {ps : List Tm} {f : FuncId} {caps : List AV} (J : Store → Prop) (hJ : ∀ σ σ', Grow σ σ' → J σ → J σ') (g : Tm → Bool) [Callable Try.prog f]
    (h : ∀ p ∈ ps, ∀ (σ : Store) (s : AV) [RTs σ s p.ps], J σ → ACall Try.prog base f ([.agg [I p.op, I p.n, s]] ++ caps) σ (fun _ => False) (Ret σ (Bo (g p))))
    (σ : Store) (s : AV) [hs : RTs σ s ps] (j0 : J σ) : ACall Try.prog base F_slices_IndexFunc_impl_Term_impl_Term [s, .fn f caps] σ (fun _ => False) (fun r σ' => (∃ z, r = I z ∧ decide (z ≥ 0) = ps.any g) ∧ Grow σ σ') := by
  have hb := hs.bound
  refine acall2 fun_slices_IndexFunc_impl_Term_impl_Term rfl tmps_slices_IndexFunc_impl_Term_impl_Term rfl fun N B w₀ ρ₀ => ?_
  repeat' (first
    | refine wp_seqA ?_
    | refine wp_region_seq ?_
    | refine thru_seq_next ?_
    | refine wp_blockA ?_
    | refine wl_nil ?_
    | refine wl_pop rfl (po_move rfl) ?_
    | refine wl_pop rfl (po_assign rfl) ?_
    | refine wl_pop rfl (pc_lenT rfl inferInstance inferInstance) ?_
    | fail)
  refine wc_loop [(0, s), (1, .fn f caps), (7, I ps.length)] (fun k : Nat => [(8, I k)]) (fun k σ' => k ≤ ps.length ∧ (ps.take k).any g = false ∧ Grow σ σ') (fun k => ps.length - k) 0 ⟨Nat.zero_le _, rfl, LeS.grow inferInstance⟩ (sub_int rfl (by simp) (sub_cons rfl (sub_cons rfl (sub_cons rfl sub_nil)))) ?_
  rintro k σ' ⟨hk, hf, hg⟩
  repeat' (first
    | refine wp_seqA ?_
    | refine wp_region_seq ?_
    | refine thru_seq_next ?_
    | refine thru_seq ?_
    | refine exit_here ?_
    | refine wp_skipA ?_
    | refine wp_retA ?_
    | refine wp_exitA ?_
    | refine wp_blockA ?_
    | refine wl_nil ?_
    | refine wl_pop rfl (po_move rfl) ?_
    | refine wl_pop rfl (po_assign rfl) ?_
    | refine wl_pop rfl (po_binOp rfl rfl rfl) ?_
    | refine wp_condP rfl (fun _ => ?_) (fun _ => ?_)
    | refine at_ret (res1 rfl rfl) ?_
    | fail)
  rotate_left
  · have : k = ps.length := by omega
    subst this
    rw [List.take_length] at hf
    exact ⟨⟨_, rfl, by rw [hf]; rfl⟩, hg⟩
  have hk' : k < ps.length := by omega
  obtain ⟨id, off, s', rfl, hat, hrs⟩ := (inferInstance : RTs σ' s ps).part hk'
  repeat' (first
    | (refine wc_callR rfl inferInstance rfl (h _ (List.getElem_mem hk') _ _ (hJ _ _ inferInstance j0)) rfl ?_; intro _ _)
    | refine wp_seqA ?_
    | refine wp_region_seq ?_
    | refine thru_seq_next ?_
    | refine thru_seq_ret ?_
    | refine thru_block_ret ?_
    | refine thru_block_next ?_
    | refine wp_skipA ?_
    | refine wp_retA ?_
    | refine wl_nil ?_
    | refine wl_pop rfl (po_move rfl) ?_
    | refine wl_pop rfl (po_assign rfl) ?_
    | refine wl_pop rfl (pc_add rfl rfl (by omega) (by omega)) ?_
    | refine wl_pop rfl (pc_indexAddr rfl rfl inferInstance inferInstance (by omega)) ?_
    | refine wc_loadn rfl inferInstance inferInstance rfl ?_
    | refine wp_condA rfl (fun _ => ?_) (fun _ => ?_)
    | refine at_ret (res1 rfl rfl) ?_
    | fail)
  · rename_i h1
    exact ⟨⟨_, rfl, by simp; exact ⟨_, List.getElem_mem hk', h1⟩⟩, LeS.grow inferInstance⟩
  · rename_i h1
    exact ⟨k + 1, by omega, ⟨hk', by rw [List.take_succ_eq_append_getElem hk', List.any_append, hf]; simp [h1], LeS.grow inferInstance⟩, sub_int rfl (by simp) (sub_cons rfl (sub_cons rfl (sub_cons rfl sub_nil)))⟩
theorem c_ContainsFunc {ps : List Tm} {f : FuncId} {caps : List AV} (J : Store → Prop) (hJ : ∀ σ σ', Grow σ σ' → J σ → J σ') (g : Tm → Bool) [Callable Try.prog f]
    (h : ∀ p ∈ ps, ∀ (σ : Store) (s : AV) [RTs σ s p.ps], J σ → ACall Try.prog base f ([.agg [I p.op, I p.n, s]] ++ caps) σ (fun _ => False) (Ret σ (Bo (g p))))
    (σ : Store) (s : AV) [hs : RTs σ s ps] (j0 : J σ) : ACall Try.prog base F_slices_ContainsFunc_impl_Term_impl_Term [s, .fn f caps] σ (fun _ => False) (Ret σ (Bo (ps.any g))) := by
  refine acall2 fun_slices_ContainsFunc_impl_Term_impl_Term rfl tmps_slices_ContainsFunc_impl_Term_impl_Term rfl fun N B w₀ ρ₀ => ?_
  repeat' (first
    | (refine wc_call rfl inferInstance rfl (c_IndexFunc J hJ g h _ _ j0) rfl ?_; rintro _ σ' ⟨⟨z, rfl, hz⟩, hg⟩)
    | refine wp_seqA ?_
    | refine wp_region_seq ?_
    | refine thru_seq_next ?_
    | refine wp_retA ?_
    | refine wl_nil ?_
    | refine wl_pop rfl (po_move rfl) ?_
    | refine wl_pop rfl (po_assign rfl) ?_
    | refine wl_pop rfl (po_binOp rfl rfl rfl) ?_
    | refine at_ret (res1 rfl rfl) ?_
    | fail)
  exact ret_ inferInstance (congrArg Bo hz)
end
end Go.Proofs.Ytcmkkmlgdkhmiaa.Asl
