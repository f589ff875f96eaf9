/- The text of a term, as the judge says it. -/
import Derived.Test.YthbodgnoadlbcaaDoorK0
import Derived.Test.YthbodgnoadlbcaaDoorTT
import Derived.Test.YthbodgnoadlbcaaDoorTU
namespace Go.Proofs.YthbodgnoadlbcaaDoor.Asl
open Go.RowKit Go.Proofs.YthbodgnoadlbcaaDoorW.PrintLast
set_option linter.unusedVariables false
set_option linter.unusedSimpArgs false
attribute [local irreducible] WP WL andThen inBlock noGoto atEnd ACall DA DL PO Hold nodeOk
set_option maxHeartbeats 4000000
set_option synthInstance.maxHeartbeats 400000
set_option synthInstance.maxSize 10000
def decB (n : Int) : List UInt8 := [UInt8.ofNat (48 + n).toNat]
def letB (n : Int) : UInt8 := UInt8.ofNat (97 + n).toNat
def actT (a : Int) : List UInt8 := if a = 0 then [116, 97, 117] else if a < 0 then [33, letB (-a - 1)] else [letB (a - 1)]
def headT (op n : Int) : List UInt8 :=
  if op = 1 then [40, 97, 99, 116, 32] ++ actT n else if op = 2 then [40, 115, 117, 109] else if op = 3 then [40, 112, 97, 114] else [40, 104, 105, 100, 101, 32] ++ actT (n + 1)
mutual
def Tm.txt : Tm → List UInt8 | .node op n ps => if op = 0 then [48] else if op = 5 then [88] ++ decB n else headT op n ++ Tm.txts ps ++ [41]
def Tm.txts : List Tm → List UInt8 | [] => [] | p :: ps => ([32] ++ p.txt) ++ Tm.txts ps
end
theorem Tm.txts_append (a b : List Tm) : Tm.txts (a ++ b) = Tm.txts a ++ Tm.txts b := by
  induction a with
  | nil => rfl
  | cons p a ih => simp only [List.cons_append, Tm.txts, ih, List.append_assoc]
theorem actT_len (a : Int) : (actT a).length ≤ 3 := by unfold actT; split; simp; split <;> simp
theorem headT_len (op n : Int) : (headT op n).length ≤ 9 := by
  unfold headT
  have := actT_len n
  have := actT_len (n + 1)
  split
  · simp only [List.length_append, List.length_cons, List.length_nil]; omega
  · split
    · simp
    · split
      · simp
      · simp only [List.length_append, List.length_cons, List.length_nil]; omega
mutual
theorem Tm.txt_len : ∀ t : Tm, t.txt.length + 1 ≤ 12 * t.cnt
  | .node op n ps => by
    have h1 := Tm.txts_len ps
    have h2 := headT_len op n
    simp only [Tm.txt, Tm.cnt]
    split
    · simp; omega
    · split
      · simp [decB]; omega
      · simp only [List.length_append, List.length_cons, List.length_nil]; omega
theorem Tm.txts_len : ∀ ps : List Tm, (Tm.txts ps).length ≤ 12 * Tm.cnts ps
  | [] => by simp [Tm.txts]
  | p :: ps => by
    have h1 := Tm.txt_len p
    have h2 := Tm.txts_len ps
    have h3 := Tm.cnt_pos p
    simp only [Tm.txts, Tm.cnts, List.length_append, List.length_cons, List.length_nil]; omega
end
abbrev wordsB : List ByteArray := [ofL [], ofL [97, 99, 116], ofL [115, 117, 109], ofL [112, 97, 114], ofL [104, 105, 100, 101]]
section
variable {base : Nat}
theorem c_l6Dec (n : Int) (h0 : 0 ≤ n) (h1 : n < 10) (σ : Store) : ACall Tryd.prog base F_spec_l6Dec [I n] σ (fun _ => False) (Ret σ (Str (ofL (decB n)))) := by
  refine acall1 fun_spec_l6Dec rfl tmps_spec_l6Dec rfl fun N B w₀ ρ₀ => ?_
  repeat' (first
    | refine wl_pop rfl (pc_toByte rfl inferInstance inferInstance (by omega) (by omega)) ?_
    | (refine wc_oneU8 rfl inferInstance inferInstance rfl (by decide) rfl ?_; intro _ _ _ _ _)
    | refine wl_pop rfl (pc_convByte rfl inferInstance inferInstance inferInstance (at_has (cs := [_]) (.inl rfl) rfl rfl) (Has.lt inferInstance)) ?_
    | refine wp_seqA ?_
    | refine wp_region_seq ?_
    | refine thru_seq_next ?_
    | refine thru_seq_ret ?_
    | refine wp_skipA ?_
    | refine wp_retA ?_
    | refine wl_nil ?_
    | refine wl_pop rfl (po_move rfl) ?_
    | refine wl_pop rfl (po_assign rfl) ?_
    | refine wl_pop rfl (pc_add rfl rfl (by omega) (by omega)) ?_
    | refine wl_pop rfl (po_binOp rfl rfl rfl) ?_
    | refine wl_pop rfl (po_neg rfl) ?_
    | refine wp_condP rfl (fun _ => ?_) (fun _ => ?_)
    | refine at_ret (res1 rfl rfl) ?_
    | exact ret_ inferInstance rfl
    | fail)
  all_goals first | (exfalso; omega) | exact ret_ inferInstance rfl
theorem c_l1Text (a : Int) (h0 : -4 ≤ a) (h1 : a ≤ 4) (σ : Store) : ACall Tryd.prog base F_spec_l1Text [I a] σ (fun _ => False) (Ret σ (Str (ofL (actT a)))) := by
  have hc : a = -4 ∨ a = -3 ∨ a = -2 ∨ a = -1 ∨ a = 0 ∨ a = 1 ∨ a = 2 ∨ a = 3 ∨ a = 4 := by omega

  refine acall1 fun_spec_l1Text rfl tmps_spec_l1Text rfl fun N B w₀ ρ₀ => ?_
  repeat' (first
    | refine wc_holdR 4 ?_
    | refine wc_holdR 5 ?_
    | refine wp_seqA ?_
    | refine wp_region_seq ?_
    | refine thru_seq_next ?_
    | refine thru_seq_ret ?_
    | refine thru_block_ret ?_
    | refine thru_block_next ?_
    | refine wp_skipA ?_
    | refine wp_retA ?_
    | refine wp_blockA ?_
    | refine wl_nil ?_
    | refine wl_pop rfl (po_move rfl) ?_
    | refine wl_pop rfl (po_assign rfl) ?_
    | refine wl_pop rfl (po_binOp rfl rfl rfl) ?_
    | refine wp_condP rfl (fun _ => ?_) (fun _ => ?_)
    | refine at_ret (res1 rfl rfl) ?_
    | fail)
  · subst_vars; exact ret_ inferInstance rfl
  · refine hold_go ?_
    rcases hc with rfl | rfl | rfl | rfl | rfl | rfl | rfl | rfl | rfl
    all_goals try (exfalso; omega)
    all_goals skip
    repeat' (first
      | (refine wc_callR rfl inferInstance rfl (c_l1Name _ _ (by omega) (by omega)) rfl ?_; intro _ _)
      | refine wl_pop rfl (pc_sliceStrZ rfl inferInstance rfl rfl (by decide) (by decide) (by decide)) ?_
      | refine wl_pop rfl (po_concat rfl rfl (by decide)) ?_
      | refine wp_region_seq ?_
      | refine thru_seq_next ?_
      | refine thru_seq_ret ?_
      | refine thru_block_ret ?_
      | refine wp_retA ?_
      | refine wl_nil ?_
      | refine wl_pop rfl (po_move rfl) ?_
      | refine wl_pop rfl (po_assign rfl) ?_
      | refine wl_pop rfl (pc_add rfl rfl (by omega) (by omega)) ?_
      | refine at_ret (res1 rfl rfl) ?_
      | exact ret_ inferInstance rfl
      | fail)
    all_goals exact ret_ inferInstance rfl
  · refine hold_go ?_
    rcases hc with rfl | rfl | rfl | rfl | rfl | rfl | rfl | rfl | rfl
    all_goals try (exfalso; omega)
    all_goals skip
    repeat' (first
      | (refine wc_callR rfl inferInstance rfl (c_l1Name _ _ (by omega) (by omega)) rfl ?_; intro _ _)
      | refine wl_pop rfl (pc_sliceStrZ rfl inferInstance rfl rfl (by decide) (by decide) (by decide)) ?_
      | refine wp_region_seq ?_
      | refine thru_seq_next ?_
      | refine wp_retA ?_
      | refine wl_nil ?_
      | refine wl_pop rfl (po_move rfl) ?_
      | refine wl_pop rfl (po_assign rfl) ?_
      | refine wl_pop rfl (pc_add rfl rfl (by omega) (by omega)) ?_
      | refine at_ret (res1 rfl rfl) ?_
      | exact ret_ inferInstance rfl
      | fail)
    all_goals exact ret_ inferInstance rfl
theorem c_l2Words (σ : Store) : ACall Tryd.prog base F_spec_l2Words [] σ (fun _ => False) (RetOW σ wordsB) := by
  refine acall0 fun_spec_l2Words rfl tmps_spec_l2Words fun N B w₀ ρ₀ => ?_
  repeat' (first
    | (refine wc_buildSlice (rs := [(0, Str (ofL [])), (1, Str (ofL [97, 99, 116])), (2, Str (ofL [115, 117, 109])), (3, Str (ofL [112, 97, 114])), (4, Str (ofL [104, 105, 100, 101]))]) (cs := rowCells wordsB) Un.eq inferInstance rfl (by decide) (by decide) rfl (by intro r hr; simp only [List.mem_cons, List.not_mem_nil, or_false] at hr; rcases hr with rfl | rfl | rfl | rfl | rfl <;> exact ⟨rfl, by simp, by simp [AV.cells, AV.one]⟩) rfl rfl ?_; intro _ _ _ _ _)
    | refine wp_seqA ?_
    | refine wp_region_seq ?_
    | refine thru_seq_next ?_
    | refine wp_retA ?_
    | refine wl_nil ?_
    | refine wl_pop rfl (po_assign rfl) ?_
    | refine at_ret (res1 rfl rfl) ?_
    | fail)
  rename_i i1 σ1 g1 n1 h1
  exact ret_ow (σ₁ := σ) (ow_of_has (l := wordsB) h1 n1.le rfl (by decide)) instLeRefl inferInstance rfl
def CTx (base : Nat) (f : FuncId) (t : Tm) : Prop := ∀ (σ : Store) (s : AV), RTs σ s t.ps → ACall Tryd.prog base f [.agg [I t.op, I t.n, s]] σ (fun _ => False) (Ret σ (Str (ofL t.txt)))
end
end Go.Proofs.YthbodgnoadlbcaaDoor.Asl
