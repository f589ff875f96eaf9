/- The text of a term, as the judge says it. -/
import Derived.Test.YthbodgnoadlbcaaDoorK0
import Derived.Test.YthbodgnoadlbcaaDoorTT
import Derived.Test.YthbodgnoadlbcaaDoorTU
namespace Go.Proofs.YthbodgnoadlbcaaDoor.Asl
open Go.RowKit Go.Proofs.YthbodgnoadlbcaaDoorW.PrintLast
set_option linter.unusedVariables false
set_option linter.unusedSimpArgs false
attribute [local irreducible] WP WL andThen inBlock noGoto atEnd ACall DA DL PO Hold nodeOk
set_option maxHeartbeats 4000000
set_option synthInstance.maxHeartbeats 400000
set_option synthInstance.maxSize 10000
def decB (n : Int) : List UInt8 := [UInt8.ofNat (48 + n).toNat]
def letB (n : Int) : UInt8 := UInt8.ofNat (97 + n).toNat
def actT (a : Int) : List UInt8 := if a = 0 then [116, 97, 117] else if a < 0 then [33, letB (-a - 1)] else [letB (a - 1)]
def headT (op n : Int) : List UInt8 :=
  if op = 1 then [40, 97, 99, 116, 32] ++ actT n else if op = 2 then [40, 115, 117, 109] else if op = 3 then [40, 112, 97, 114] else [40, 104, 105, 100, 101, 32] ++ actT (n + 1)
mutual
def Tm.txt : Tm → List UInt8 | .node op n ps => if op = 0 then [48] else if op = 5 then [88] ++ decB n else headT op n ++ Tm.txts ps ++ [41]
def Tm.txts : List Tm → List UInt8 | [] => [] | p :: ps => ([32] ++ p.txt) ++ Tm.txts ps
end
theorem Tm.txts_append (a b : List Tm) : Tm.txts (a ++ b) = Tm.txts a ++ Tm.txts b := by
  induction a with
  | nil => rfl
  | cons p a ih => simp only [List.cons_append, Tm.txts, ih, List.append_assoc]
theorem Tm.txts_take {ps : List Tm} {k : Nat} (h : k < ps.length) : Tm.txts (ps.take (k + 1)) = Tm.txts (ps.take k) ++ ([32] ++ ps[k].txt) := by
  rw [List.take_add_one, List.getElem?_eq_getElem h, Tm.txts_append]; simp [Tm.txts]
theorem actT_len (a : Int) : (actT a).length ≤ 3 := by unfold actT; split; simp; split <;> simp
theorem headT_len (op n : Int) : (headT op n).length ≤ 9 := by
  unfold headT
  have := actT_len n
  have := actT_len (n + 1)
  split
  · simp only [List.length_append, List.length_cons, List.length_nil]; omega
  · split
    · simp
    · split
      · simp
      · simp only [List.length_append, List.length_cons, List.length_nil]; omega
mutual
theorem Tm.txt_len : ∀ t : Tm, t.txt.length + 1 ≤ 12 * t.cnt
  | .node op n ps => by
    have h1 := Tm.txts_len ps
    have h2 := headT_len op n
    simp only [Tm.txt, Tm.cnt]
    split
    · simp; omega
    · split
      · simp [decB]; omega
      · simp only [List.length_append, List.length_cons, List.length_nil]; omega
theorem Tm.txts_len : ∀ ps : List Tm, (Tm.txts ps).length ≤ 12 * Tm.cnts ps
  | [] => by simp [Tm.txts]
  | p :: ps => by
    have h1 := Tm.txt_len p
    have h2 := Tm.txts_len ps
    have h3 := Tm.cnt_pos p
    simp only [Tm.txts, Tm.cnts, List.length_append, List.length_cons, List.length_nil]; omega
end
theorem txts_take_le (ps : List Tm) (k : Nat) : (Tm.txts (ps.take k)).length ≤ (Tm.txts ps).length := by
  have h := Tm.txts_append (ps.take k) (ps.drop k)
  rw [List.take_append_drop] at h
  rw [h, List.length_append]; omega
theorem cnts_part {ps : List Tm} {k : Nat} (h : k < ps.length) : ps[k].cnt ≤ Tm.cnts ps := by
  have := Tm.cnts_take h
  have := Tm.cnts_le (ps := ps) (k + 1)
  omega
abbrev wordsB : List ByteArray := [ofL [], ofL [97, 99, 116], ofL [115, 117, 109], ofL [112, 97, 114], ofL [104, 105, 100, 101]]
section
variable {base : Nat}
theorem c_l6Dec (n : Int) (h0 : 0 ≤ n) (h1 : n < 10) (σ : Store) : ACall Tryd.prog base F_spec_l6Dec [I n] σ (fun _ => False) (Ret σ (Str (ofL (decB n)))) := by
  refine acall1 fun_spec_l6Dec rfl tmps_spec_l6Dec rfl fun N B w₀ ρ₀ => ?_
  repeat' (first
    | refine wl_pop rfl (pc_toByte rfl inferInstance inferInstance (by omega) (by omega)) ?_
    | (refine wc_oneU8 rfl inferInstance inferInstance rfl (by decide) rfl ?_; intro _ _ _ _ _)
    | refine wl_pop rfl (pc_convByte rfl inferInstance inferInstance inferInstance (at_has (cs := [_]) (.inl rfl) rfl rfl) (Has.lt inferInstance)) ?_
    | refine wp_seqA ?_
    | refine wp_region_seq ?_
    | refine thru_seq_next ?_
    | refine thru_seq_ret ?_
    | refine wp_skipA ?_
    | refine wp_retA ?_
    | refine wl_nil ?_
    | refine wl_pop rfl (po_move rfl) ?_
    | refine wl_pop rfl (po_assign rfl) ?_
    | refine wl_pop rfl (pc_add rfl rfl (by omega) (by omega)) ?_
    | refine wl_pop rfl (po_binOp rfl rfl rfl) ?_
    | refine wl_pop rfl (po_neg rfl) ?_
    | refine wp_condP rfl (fun _ => ?_) (fun _ => ?_)
    | refine at_ret (res1 rfl rfl) ?_
    | exact ret_ inferInstance rfl
    | fail)
  all_goals first | (exfalso; omega) | exact ret_ inferInstance rfl
theorem c_l1Text (a : Int) (h0 : -4 ≤ a) (h1 : a ≤ 4) (σ : Store) : ACall Tryd.prog base F_spec_l1Text [I a] σ (fun _ => False) (Ret σ (Str (ofL (actT a)))) := by
  have hc : a = -4 ∨ a = -3 ∨ a = -2 ∨ a = -1 ∨ a = 0 ∨ a = 1 ∨ a = 2 ∨ a = 3 ∨ a = 4 := by omega

  refine acall1 fun_spec_l1Text rfl tmps_spec_l1Text rfl fun N B w₀ ρ₀ => ?_
  repeat' (first
    | refine wc_holdR 4 ?_
    | refine wc_holdR 5 ?_
    | refine wp_seqA ?_
    | refine wp_region_seq ?_
    | refine thru_seq_next ?_
    | refine thru_seq_ret ?_
    | refine thru_block_ret ?_
    | refine thru_block_next ?_
    | refine wp_skipA ?_
    | refine wp_retA ?_
    | refine wp_blockA ?_
    | refine wl_nil ?_
    | refine wl_pop rfl (po_move rfl) ?_
    | refine wl_pop rfl (po_assign rfl) ?_
    | refine wl_pop rfl (po_binOp rfl rfl rfl) ?_
    | refine wp_condP rfl (fun _ => ?_) (fun _ => ?_)
    | refine at_ret (res1 rfl rfl) ?_
    | fail)
  · subst_vars; exact ret_ inferInstance rfl
  · refine hold_go ?_
    rcases hc with rfl | rfl | rfl | rfl | rfl | rfl | rfl | rfl | rfl
    all_goals try (exfalso; omega)
    all_goals skip
    repeat' (first
      | (refine wc_callR rfl inferInstance rfl (c_l1Name _ _ (by omega) (by omega)) rfl ?_; intro _ _)
      | refine wl_pop rfl (pc_sliceStrZ rfl inferInstance rfl rfl (by decide) (by decide) (by decide)) ?_
      | refine wl_pop rfl (po_concat rfl rfl (by decide)) ?_
      | refine wp_region_seq ?_
      | refine thru_seq_next ?_
      | refine thru_seq_ret ?_
      | refine thru_block_ret ?_
      | refine wp_retA ?_
      | refine wl_nil ?_
      | refine wl_pop rfl (po_move rfl) ?_
      | refine wl_pop rfl (po_assign rfl) ?_
      | refine wl_pop rfl (pc_add rfl rfl (by omega) (by omega)) ?_
      | refine at_ret (res1 rfl rfl) ?_
      | exact ret_ inferInstance rfl
      | fail)
    all_goals exact ret_ inferInstance rfl
  · refine hold_go ?_
    rcases hc with rfl | rfl | rfl | rfl | rfl | rfl | rfl | rfl | rfl
    all_goals try (exfalso; omega)
    all_goals skip
    repeat' (first
      | (refine wc_callR rfl inferInstance rfl (c_l1Name _ _ (by omega) (by omega)) rfl ?_; intro _ _)
      | refine wl_pop rfl (pc_sliceStrZ rfl inferInstance rfl rfl (by decide) (by decide) (by decide)) ?_
      | refine wp_region_seq ?_
      | refine thru_seq_next ?_
      | refine wp_retA ?_
      | refine wl_nil ?_
      | refine wl_pop rfl (po_move rfl) ?_
      | refine wl_pop rfl (po_assign rfl) ?_
      | refine wl_pop rfl (pc_add rfl rfl (by omega) (by omega)) ?_
      | refine at_ret (res1 rfl rfl) ?_
      | exact ret_ inferInstance rfl
      | fail)
    all_goals exact ret_ inferInstance rfl
theorem c_l2Words (σ : Store) : ACall Tryd.prog base F_spec_l2Words [] σ (fun _ => False) (RetOW σ wordsB) := by
  refine acall0 fun_spec_l2Words rfl tmps_spec_l2Words fun N B w₀ ρ₀ => ?_
  repeat' (first
    | (refine wc_buildSlice (rs := [(0, Str (ofL [])), (1, Str (ofL [97, 99, 116])), (2, Str (ofL [115, 117, 109])), (3, Str (ofL [112, 97, 114])), (4, Str (ofL [104, 105, 100, 101]))]) (cs := rowCells wordsB) Un.eq inferInstance rfl (by decide) (by decide) rfl (by intro r hr; simp only [List.mem_cons, List.not_mem_nil, or_false] at hr; rcases hr with rfl | rfl | rfl | rfl | rfl <;> exact ⟨rfl, by simp, by simp [AV.cells, AV.one]⟩) rfl rfl ?_; intro _ _ _ _ _)
    | refine wp_seqA ?_
    | refine wp_region_seq ?_
    | refine thru_seq_next ?_
    | refine wp_retA ?_
    | refine wl_nil ?_
    | refine wl_pop rfl (po_assign rfl) ?_
    | refine at_ret (res1 rfl rfl) ?_
    | fail)
  rename_i i1 σ1 g1 n1 h1
  exact ret_ow (σ₁ := σ) (ow_of_has (l := wordsB) h1 n1.le rfl (by decide)) instLeRefl inferInstance rfl
def CTx (base : Nat) (f : FuncId) (t : Tm) : Prop := ∀ (σ : Store) (s : AV), RTs σ s t.ps → ACall Tryd.prog base f [.agg [I t.op, I t.n, s]] σ (fun _ => False) (Ret σ (Str (ofL t.txt)))
theorem c_l2T_nil (σ : Store) (s : AV) [hs : RTs σ s []] : ACall Tryd.prog base F_spec_l2Text [.agg [I 0, I 0, s]] σ (fun _ => False) (Ret σ (Str (ofL [48]))) := by
  have := hs.one
  refine acall1 fun_spec_l2Text rfl tmps_spec_l2Text rfl fun N B w₀ ρ₀ => ?_
  repeat' (first
    | refine wp_seqA ?_
    | refine wp_region_seq ?_
    | refine thru_seq_next ?_
    | refine thru_seq_ret ?_
    | refine thru_block_ret ?_
    | refine wp_retA ?_
    | refine wp_blockA ?_
    | refine wl_nil ?_
    | refine wl_pop rfl (po_assign rfl) ?_
    | refine wl_pop rfl (po_binOp rfl rfl rfl) ?_
    | refine wl_pop rfl (po_fieldAddr rfl inferInstance) ?_
    | refine wc_load1 rfl inferInstance (at_has (.inl rfl) rfl rfl) rfl ?_
    | (refine wc_boxA rfl inferInstance rfl ?_; intro _ _ _ _ _)
    | refine wp_condT rfl ?_
    | refine at_ret (res1 rfl rfl) ?_
    | exact ret_ inferInstance rfl
    | fail)
theorem c_l2T_call (n : Int) (hn : 0 ≤ n ∧ n ≤ 2) (σ : Store) (s : AV) [hs : RTs σ s []] : ACall Tryd.prog base F_spec_l2Text [.agg [I 5, I n, s]] σ (fun _ => False) (Ret σ (Str (ofL ([88] ++ decB n)))) := by
  have := hs.one
  refine acall1 fun_spec_l2Text rfl tmps_spec_l2Text rfl fun N B w₀ ρ₀ => ?_
  repeat' (first
    | (refine wc_callR rfl inferInstance rfl (c_l6Dec n (by omega) (by omega) _) rfl ?_; intro _ _)
    | refine wl_pop rfl (pc_cat rfl rfl (by simp [decB])) ?_
    | refine wp_seqA ?_
    | refine wp_region_seq ?_
    | refine thru_seq_next ?_
    | refine thru_seq_ret ?_
    | refine thru_block_ret ?_
    | refine wp_retA ?_
    | refine wp_blockA ?_
    | refine wl_nil ?_
    | refine wl_pop rfl (po_assign rfl) ?_
    | refine wl_pop rfl (po_binOp rfl rfl rfl) ?_
    | refine wl_pop rfl (po_fieldAddr rfl inferInstance) ?_
    | refine wc_load1 rfl inferInstance (at_has (.inl rfl) rfl rfl) rfl ?_
    | (refine wc_boxA rfl inferInstance rfl ?_; intro _ _ _ _ _)
    | refine wp_condT rfl ?_
    | refine wp_condF rfl ?_
    | refine at_ret (res1 rfl rfl) ?_
    | exact ret_ inferInstance rfl
    | fail)
theorem c_l2T_act (n : Int) (hn : -4 ≤ n ∧ n ≤ 4) (ps : List Tm) (hc : Tm.cnts ps ≤ 1000000) (hp : ∀ p ∈ ps, CTx base F_spec_l2Text p) (σ : Store) (s : AV) [hs : RTs σ s ps] : ACall Tryd.prog base F_spec_l2Text [.agg [I 1, I n, s]] σ (fun _ => False) (Ret σ (Str (ofL (headT 1 n ++ Tm.txts ps ++ [41])))) := by
  have hbd := hs.bound
  have := hs.one
  have hal := actT_len n
  have hal1 := actT_len (n + 1)
  have hhl := headT_len 1 n
  have htl := Tm.txts_len ps
  refine acall1 fun_spec_l2Text rfl tmps_spec_l2Text rfl fun N B w₀ ρ₀ => ?_
  repeat' (first
    | refine wc_holdR 6 ?_
    | refine wp_seqA ?_
    | refine wp_region_seq ?_
    | refine thru_seq_next ?_
    | refine thru_block_next ?_
    | refine wp_skipA ?_
    | refine wp_blockA ?_
    | refine wl_nil ?_
    | refine wl_pop rfl (po_assign rfl) ?_
    | refine wl_pop rfl (po_binOp rfl rfl rfl) ?_
    | refine wl_pop rfl (po_fieldAddr rfl inferInstance) ?_
    | refine wc_load1 rfl inferInstance (at_has (.inl rfl) rfl rfl) rfl ?_
    | (refine wc_boxA rfl inferInstance rfl ?_; intro _ _ _ _ _)
    | refine wp_condF rfl ?_
    | fail)
  rename_i i1 σ1 g1 n1 h1
  refine hold_go ?_
  refine wc_drawn [] mixed_ rfl ?_
  all_goals (first | refine da_takeC 1 rfl rfl (by kernel_rfl) (by first | exact po_fieldAddr rfl inferInstance | fail) ?_ | (refine da_one 1 rfl (by kernel_rfl) (fun _ _ _ _ => ?_); (repeat' (first | fail)); all_goals (first | refine wl_nil ⟨rfl, (by first | exact LeS.len inferInstance | exact App.len (by assumption)), ?_⟩ | fail)))
  all_goals (first | refine da_takeC 2 rfl rfl (by kernel_rfl) (by first | exact pc_load1L rfl inferInstance (at_has (.inl rfl) rfl rfl) inferInstance | fail) ?_ | (refine da_one 2 rfl (by kernel_rfl) (fun _ _ _ _ => ?_); (repeat' (first | fail)); all_goals (first | refine wl_nil ⟨rfl, (by first | exact LeS.len inferInstance | exact App.len (by assumption)), ?_⟩ | fail)))
  all_goals (first | (refine da_one 0 rfl (by kernel_rfl) (fun _ _ _ _ => ?_); (repeat' (first | (refine wc_callOW rfl inferInstance rfl (c_l2Words _) rfl ?_; intro _ _ _ _ _) | fail)); all_goals (first | refine wl_nil ⟨rfl, (by first | exact LeS.len inferInstance | exact App.len (by assumption)), ?_⟩ | trace_state)))
  all_goals (first | refine da_takeC 3 rfl rfl (by kernel_rfl) (by first | fail) ?_ | (refine da_one 3 rfl (by kernel_rfl) (fun _ _ _ _ => ?_); (repeat' (first | refine wl_pop rfl (pc_indexRowZ rfl rfl inferInstance inferInstance inferInstance (by decide) (by decide)) ?_ | fail)); all_goals (first | refine wl_nil ⟨rfl, (by first | exact LeS.len inferInstance | exact App.len (by assumption)), ?_⟩ | fail)))
  all_goals (first | refine da_takeC 4 rfl rfl (by kernel_rfl) (by first | fail) ?_ | (refine da_one 4 rfl (by kernel_rfl) (fun _ _ _ _ => ?_); (repeat' (first | refine wl_pop rfl (pc_ldStrE [97, 99, 116] rfl inferInstance inferInstance rfl inferInstance) ?_ | fail)); all_goals (first | refine wl_nil ⟨rfl, (by first | exact LeS.len inferInstance | exact App.len (by assumption)), ?_⟩ | fail)))
  all_goals (first | refine da_takeC 5 rfl rfl (by kernel_rfl) (by first | exact pc_cat (a := [40]) rfl rfl (by decide) | fail) ?_ | (refine da_one 5 rfl (by kernel_rfl) (fun _ _ _ _ => ?_); (repeat' (first | fail)); all_goals (first | refine wl_nil ⟨rfl, (by first | exact LeS.len inferInstance | exact App.len (by assumption)), ?_⟩ | fail)))
  all_goals (first | refine da_takeC 6 rfl rfl (by kernel_rfl) (by first | exact po_assign rfl | fail) ?_ | (refine da_one 6 rfl (by kernel_rfl) (fun _ _ _ _ => ?_); (repeat' (first | fail)); all_goals (first | refine wl_nil ⟨rfl, (by first | exact LeS.len inferInstance | exact App.len (by assumption)), ?_⟩ | fail)))
  all_goals refine da_done (by kernel_rfl) ?_
  repeat' (first
    | (refine wc_callR rfl inferInstance rfl (c_l1Text _ (by omega) (by omega) _) rfl ?_; intro _ _)
    | refine wl_pop rfl (pc_cat rfl rfl (by simp only [List.length_append, List.length_cons, List.length_nil]; omega)) ?_
    | refine wp_seqA ?_
    | refine wp_region_seq ?_
    | refine thru_seq_next ?_
    | refine wp_skipA ?_
    | refine wp_blockA ?_
    | refine wl_nil ?_
    | refine wl_pop rfl (po_move rfl) ?_
    | refine wl_pop rfl (po_assign rfl) ?_
    | refine wl_pop rfl (po_binOp rfl rfl rfl) ?_
    | refine wl_pop rfl (po_fieldAddr rfl inferInstance) ?_
    | refine wc_load1 rfl inferInstance (at_has (.inl rfl) rfl rfl) rfl ?_
    | refine wp_condT rfl ?_
    | refine wp_condF rfl ?_
    | fail)
  refine wc_loop [(1, _)] (fun k : Nat => [(3, Str (ofL (headT 1 n ++ Tm.txts (ps.take k)))), (4, I k)]) (fun k σ' => k ≤ ps.length ∧ LeS σ1 σ') (fun k => ps.length - k) 0 ⟨Nat.zero_le _, inferInstance⟩ (sub_str rfl (by simp [headT, Tm.txts]) (sub_int rfl (by simp) (sub_cons rfl sub_nil))) ?_
  rintro k σ' ⟨hk, hg⟩
  have := hg.grow
  have htk := txts_take_le ps k
  repeat' (first
    | refine wl_pop rfl (pc_cat rfl rfl (by simp only [List.length_append, List.length_cons, List.length_nil]; omega)) ?_
    | refine wp_seqA ?_
    | refine wp_region_seq ?_
    | refine thru_seq_next ?_
    | refine thru_seq ?_
    | refine exit_here ?_
    | refine wp_skipA ?_
    | refine wp_retA ?_
    | refine wp_exitA ?_
    | refine wp_blockA ?_
    | refine wl_nil ?_
    | refine wl_pop rfl (po_move rfl) ?_
    | refine wl_pop rfl (po_assign rfl) ?_
    | refine wl_pop rfl (po_binOp rfl rfl rfl) ?_
    | refine wl_pop rfl (po_fieldAddr rfl inferInstance) ?_
    | refine wc_load1 rfl inferInstance (at_has (.inl rfl) rfl rfl) rfl ?_
    | refine wp_condP rfl (fun _ => ?_) (fun _ => ?_)
    | refine wl_pop rfl (pc_lenT rfl inferInstance inferInstance) ?_
    | refine at_ret (res1 rfl rfl) ?_
    | fail)
  rotate_left
  · obtain rfl : k = ps.length := by omega
    rw [List.take_length]
    exact ret_ inferInstance rfl
  have hk' : k < ps.length := by omega
  obtain ⟨id, off, s', rfl, hat, hrs⟩ := (inferInstance : RTs σ' s ps).part hk'
  have := hrs.one
  have hpl := Tm.txt_len ps[k]
  have hpc := cnts_part hk'
  repeat' (first
    | (refine wc_callR rfl inferInstance rfl (hp _ (List.getElem_mem hk') _ _ inferInstance) rfl ?_; intro _ _)
    | refine wl_pop rfl (pc_cat rfl rfl (by simp only [List.length_append, List.length_cons, List.length_nil]; omega)) ?_
    | refine wp_region_seq ?_
    | refine thru_seq_next ?_
    | refine thru_block_next ?_
    | refine wl_nil ?_
    | refine wl_pop rfl (po_move rfl) ?_
    | refine wl_pop rfl (po_assign rfl) ?_
    | refine wl_pop rfl (pc_add rfl rfl (by omega) (by omega)) ?_
    | refine wl_pop rfl (pc_indexAddr rfl rfl inferInstance inferInstance (by omega)) ?_
    | refine wc_loadn rfl inferInstance inferInstance rfl ?_
    | fail)
  exact ⟨k + 1, by omega, ⟨hk', inferInstance⟩, sub_str rfl (by rw [Tm.txts_take hk']; simp) (sub_int rfl (by simp) (sub_cons rfl sub_nil))⟩
theorem c_l2T_sum (n : Int) (hn : n = 0) (ps : List Tm) (hc : Tm.cnts ps ≤ 1000000) (hp : ∀ p ∈ ps, CTx base F_spec_l2Text p) (σ : Store) (s : AV) [hs : RTs σ s ps] : ACall Tryd.prog base F_spec_l2Text [.agg [I 2, I n, s]] σ (fun _ => False) (Ret σ (Str (ofL (headT 2 n ++ Tm.txts ps ++ [41])))) := by
  have hbd := hs.bound
  have := hs.one
  have hal := actT_len n
  have hal1 := actT_len (n + 1)
  have hhl := headT_len 2 n
  have htl := Tm.txts_len ps
  refine acall1 fun_spec_l2Text rfl tmps_spec_l2Text rfl fun N B w₀ ρ₀ => ?_
  repeat' (first
    | refine wc_holdR 6 ?_
    | refine wp_seqA ?_
    | refine wp_region_seq ?_
    | refine thru_seq_next ?_
    | refine thru_block_next ?_
    | refine wp_skipA ?_
    | refine wp_blockA ?_
    | refine wl_nil ?_
    | refine wl_pop rfl (po_assign rfl) ?_
    | refine wl_pop rfl (po_binOp rfl rfl rfl) ?_
    | refine wl_pop rfl (po_fieldAddr rfl inferInstance) ?_
    | refine wc_load1 rfl inferInstance (at_has (.inl rfl) rfl rfl) rfl ?_
    | (refine wc_boxA rfl inferInstance rfl ?_; intro _ _ _ _ _)
    | refine wp_condF rfl ?_
    | fail)
  rename_i i1 σ1 g1 n1 h1
  refine hold_go ?_
  refine wc_drawn [] mixed_ rfl ?_
  all_goals (first | refine da_takeC 1 rfl rfl (by kernel_rfl) (by first | exact po_fieldAddr rfl inferInstance | fail) ?_ | (refine da_one 1 rfl (by kernel_rfl) (fun _ _ _ _ => ?_); (repeat' (first | fail)); all_goals (first | refine wl_nil ⟨rfl, (by first | exact LeS.len inferInstance | exact App.len (by assumption)), ?_⟩ | fail)))
  all_goals (first | refine da_takeC 2 rfl rfl (by kernel_rfl) (by first | exact pc_load1L rfl inferInstance (at_has (.inl rfl) rfl rfl) inferInstance | fail) ?_ | (refine da_one 2 rfl (by kernel_rfl) (fun _ _ _ _ => ?_); (repeat' (first | fail)); all_goals (first | refine wl_nil ⟨rfl, (by first | exact LeS.len inferInstance | exact App.len (by assumption)), ?_⟩ | fail)))
  all_goals (first | (refine da_one 0 rfl (by kernel_rfl) (fun _ _ _ _ => ?_); (repeat' (first | (refine wc_callOW rfl inferInstance rfl (c_l2Words _) rfl ?_; intro _ _ _ _ _) | fail)); all_goals (first | refine wl_nil ⟨rfl, (by first | exact LeS.len inferInstance | exact App.len (by assumption)), ?_⟩ | trace_state)))
  all_goals (first | refine da_takeC 3 rfl rfl (by kernel_rfl) (by first | fail) ?_ | (refine da_one 3 rfl (by kernel_rfl) (fun _ _ _ _ => ?_); (repeat' (first | refine wl_pop rfl (pc_indexRowZ rfl rfl inferInstance inferInstance inferInstance (by decide) (by decide)) ?_ | fail)); all_goals (first | refine wl_nil ⟨rfl, (by first | exact LeS.len inferInstance | exact App.len (by assumption)), ?_⟩ | fail)))
  all_goals (first | refine da_takeC 4 rfl rfl (by kernel_rfl) (by first | fail) ?_ | (refine da_one 4 rfl (by kernel_rfl) (fun _ _ _ _ => ?_); (repeat' (first | refine wl_pop rfl (pc_ldStrE [115, 117, 109] rfl inferInstance inferInstance rfl inferInstance) ?_ | fail)); all_goals (first | refine wl_nil ⟨rfl, (by first | exact LeS.len inferInstance | exact App.len (by assumption)), ?_⟩ | fail)))
  all_goals (first | refine da_takeC 5 rfl rfl (by kernel_rfl) (by first | exact pc_cat (a := [40]) rfl rfl (by decide) | fail) ?_ | (refine da_one 5 rfl (by kernel_rfl) (fun _ _ _ _ => ?_); (repeat' (first | fail)); all_goals (first | refine wl_nil ⟨rfl, (by first | exact LeS.len inferInstance | exact App.len (by assumption)), ?_⟩ | fail)))
  all_goals (first | refine da_takeC 6 rfl rfl (by kernel_rfl) (by first | exact po_assign rfl | fail) ?_ | (refine da_one 6 rfl (by kernel_rfl) (fun _ _ _ _ => ?_); (repeat' (first | fail)); all_goals (first | refine wl_nil ⟨rfl, (by first | exact LeS.len inferInstance | exact App.len (by assumption)), ?_⟩ | fail)))
  all_goals refine da_done (by kernel_rfl) ?_
  repeat' (first
    | refine wp_seqA ?_
    | refine wp_region_seq ?_
    | refine thru_seq_next ?_
    | refine wp_skipA ?_
    | refine wp_blockA ?_
    | refine wl_nil ?_
    | refine wl_pop rfl (po_assign rfl) ?_
    | refine wl_pop rfl (po_binOp rfl rfl rfl) ?_
    | refine wl_pop rfl (po_fieldAddr rfl inferInstance) ?_
    | refine wc_load1 rfl inferInstance (at_has (.inl rfl) rfl rfl) rfl ?_
    | refine wp_condF rfl ?_
    | fail)
  refine wc_loop [(1, _)] (fun k : Nat => [(3, Str (ofL (headT 2 n ++ Tm.txts (ps.take k)))), (4, I k)]) (fun k σ' => k ≤ ps.length ∧ LeS σ1 σ') (fun k => ps.length - k) 0 ⟨Nat.zero_le _, inferInstance⟩ (sub_str rfl (by simp [headT, Tm.txts]) (sub_int rfl (by simp) (sub_cons rfl sub_nil))) ?_
  rintro k σ' ⟨hk, hg⟩
  have := hg.grow
  have htk := txts_take_le ps k
  repeat' (first
    | refine wl_pop rfl (pc_cat rfl rfl (by simp only [List.length_append, List.length_cons, List.length_nil]; omega)) ?_
    | refine wp_seqA ?_
    | refine wp_region_seq ?_
    | refine thru_seq_next ?_
    | refine thru_seq ?_
    | refine exit_here ?_
    | refine wp_skipA ?_
    | refine wp_retA ?_
    | refine wp_exitA ?_
    | refine wp_blockA ?_
    | refine wl_nil ?_
    | refine wl_pop rfl (po_move rfl) ?_
    | refine wl_pop rfl (po_assign rfl) ?_
    | refine wl_pop rfl (po_binOp rfl rfl rfl) ?_
    | refine wl_pop rfl (po_fieldAddr rfl inferInstance) ?_
    | refine wc_load1 rfl inferInstance (at_has (.inl rfl) rfl rfl) rfl ?_
    | refine wp_condP rfl (fun _ => ?_) (fun _ => ?_)
    | refine wl_pop rfl (pc_lenT rfl inferInstance inferInstance) ?_
    | refine at_ret (res1 rfl rfl) ?_
    | fail)
  rotate_left
  · obtain rfl : k = ps.length := by omega
    rw [List.take_length]
    exact ret_ inferInstance rfl
  have hk' : k < ps.length := by omega
  obtain ⟨id, off, s', rfl, hat, hrs⟩ := (inferInstance : RTs σ' s ps).part hk'
  have := hrs.one
  have hpl := Tm.txt_len ps[k]
  have hpc := cnts_part hk'
  repeat' (first
    | (refine wc_callR rfl inferInstance rfl (hp _ (List.getElem_mem hk') _ _ inferInstance) rfl ?_; intro _ _)
    | refine wl_pop rfl (pc_cat rfl rfl (by simp only [List.length_append, List.length_cons, List.length_nil]; omega)) ?_
    | refine wp_region_seq ?_
    | refine thru_seq_next ?_
    | refine thru_block_next ?_
    | refine wl_nil ?_
    | refine wl_pop rfl (po_move rfl) ?_
    | refine wl_pop rfl (po_assign rfl) ?_
    | refine wl_pop rfl (pc_add rfl rfl (by omega) (by omega)) ?_
    | refine wl_pop rfl (pc_indexAddr rfl rfl inferInstance inferInstance (by omega)) ?_
    | refine wc_loadn rfl inferInstance inferInstance rfl ?_
    | fail)
  exact ⟨k + 1, by omega, ⟨hk', inferInstance⟩, sub_str rfl (by rw [Tm.txts_take hk']; simp) (sub_int rfl (by simp) (sub_cons rfl sub_nil))⟩
theorem c_l2T_par (n : Int) (hn : n = 0) (ps : List Tm) (hc : Tm.cnts ps ≤ 1000000) (hp : ∀ p ∈ ps, CTx base F_spec_l2Text p) (σ : Store) (s : AV) [hs : RTs σ s ps] : ACall Tryd.prog base F_spec_l2Text [.agg [I 3, I n, s]] σ (fun _ => False) (Ret σ (Str (ofL (headT 3 n ++ Tm.txts ps ++ [41])))) := by
  have hbd := hs.bound
  have := hs.one
  have hal := actT_len n
  have hal1 := actT_len (n + 1)
  have hhl := headT_len 3 n
  have htl := Tm.txts_len ps
  refine acall1 fun_spec_l2Text rfl tmps_spec_l2Text rfl fun N B w₀ ρ₀ => ?_
  repeat' (first
    | refine wc_holdR 6 ?_
    | refine wp_seqA ?_
    | refine wp_region_seq ?_
    | refine thru_seq_next ?_
    | refine thru_block_next ?_
    | refine wp_skipA ?_
    | refine wp_blockA ?_
    | refine wl_nil ?_
    | refine wl_pop rfl (po_assign rfl) ?_
    | refine wl_pop rfl (po_binOp rfl rfl rfl) ?_
    | refine wl_pop rfl (po_fieldAddr rfl inferInstance) ?_
    | refine wc_load1 rfl inferInstance (at_has (.inl rfl) rfl rfl) rfl ?_
    | (refine wc_boxA rfl inferInstance rfl ?_; intro _ _ _ _ _)
    | refine wp_condF rfl ?_
    | fail)
  rename_i i1 σ1 g1 n1 h1
  refine hold_go ?_
  refine wc_drawn [] mixed_ rfl ?_
  all_goals (first | refine da_takeC 1 rfl rfl (by kernel_rfl) (by first | exact po_fieldAddr rfl inferInstance | fail) ?_ | (refine da_one 1 rfl (by kernel_rfl) (fun _ _ _ _ => ?_); (repeat' (first | fail)); all_goals (first | refine wl_nil ⟨rfl, (by first | exact LeS.len inferInstance | exact App.len (by assumption)), ?_⟩ | fail)))
  all_goals (first | refine da_takeC 2 rfl rfl (by kernel_rfl) (by first | exact pc_load1L rfl inferInstance (at_has (.inl rfl) rfl rfl) inferInstance | fail) ?_ | (refine da_one 2 rfl (by kernel_rfl) (fun _ _ _ _ => ?_); (repeat' (first | fail)); all_goals (first | refine wl_nil ⟨rfl, (by first | exact LeS.len inferInstance | exact App.len (by assumption)), ?_⟩ | fail)))
  all_goals (first | (refine da_one 0 rfl (by kernel_rfl) (fun _ _ _ _ => ?_); (repeat' (first | (refine wc_callOW rfl inferInstance rfl (c_l2Words _) rfl ?_; intro _ _ _ _ _) | fail)); all_goals (first | refine wl_nil ⟨rfl, (by first | exact LeS.len inferInstance | exact App.len (by assumption)), ?_⟩ | trace_state)))
  all_goals (first | refine da_takeC 3 rfl rfl (by kernel_rfl) (by first | fail) ?_ | (refine da_one 3 rfl (by kernel_rfl) (fun _ _ _ _ => ?_); (repeat' (first | refine wl_pop rfl (pc_indexRowZ rfl rfl inferInstance inferInstance inferInstance (by decide) (by decide)) ?_ | fail)); all_goals (first | refine wl_nil ⟨rfl, (by first | exact LeS.len inferInstance | exact App.len (by assumption)), ?_⟩ | fail)))
  all_goals (first | refine da_takeC 4 rfl rfl (by kernel_rfl) (by first | fail) ?_ | (refine da_one 4 rfl (by kernel_rfl) (fun _ _ _ _ => ?_); (repeat' (first | refine wl_pop rfl (pc_ldStrE [112, 97, 114] rfl inferInstance inferInstance rfl inferInstance) ?_ | fail)); all_goals (first | refine wl_nil ⟨rfl, (by first | exact LeS.len inferInstance | exact App.len (by assumption)), ?_⟩ | fail)))
  all_goals (first | refine da_takeC 5 rfl rfl (by kernel_rfl) (by first | exact pc_cat (a := [40]) rfl rfl (by decide) | fail) ?_ | (refine da_one 5 rfl (by kernel_rfl) (fun _ _ _ _ => ?_); (repeat' (first | fail)); all_goals (first | refine wl_nil ⟨rfl, (by first | exact LeS.len inferInstance | exact App.len (by assumption)), ?_⟩ | fail)))
  all_goals (first | refine da_takeC 6 rfl rfl (by kernel_rfl) (by first | exact po_assign rfl | fail) ?_ | (refine da_one 6 rfl (by kernel_rfl) (fun _ _ _ _ => ?_); (repeat' (first | fail)); all_goals (first | refine wl_nil ⟨rfl, (by first | exact LeS.len inferInstance | exact App.len (by assumption)), ?_⟩ | fail)))
  all_goals refine da_done (by kernel_rfl) ?_
  repeat' (first
    | refine wp_seqA ?_
    | refine wp_region_seq ?_
    | refine thru_seq_next ?_
    | refine wp_skipA ?_
    | refine wp_blockA ?_
    | refine wl_nil ?_
    | refine wl_pop rfl (po_assign rfl) ?_
    | refine wl_pop rfl (po_binOp rfl rfl rfl) ?_
    | refine wl_pop rfl (po_fieldAddr rfl inferInstance) ?_
    | refine wc_load1 rfl inferInstance (at_has (.inl rfl) rfl rfl) rfl ?_
    | refine wp_condF rfl ?_
    | fail)
  refine wc_loop [(1, _)] (fun k : Nat => [(3, Str (ofL (headT 3 n ++ Tm.txts (ps.take k)))), (4, I k)]) (fun k σ' => k ≤ ps.length ∧ LeS σ1 σ') (fun k => ps.length - k) 0 ⟨Nat.zero_le _, inferInstance⟩ (sub_str rfl (by simp [headT, Tm.txts]) (sub_int rfl (by simp) (sub_cons rfl sub_nil))) ?_
  rintro k σ' ⟨hk, hg⟩
  have := hg.grow
  have htk := txts_take_le ps k
  repeat' (first
    | refine wl_pop rfl (pc_cat rfl rfl (by simp only [List.length_append, List.length_cons, List.length_nil]; omega)) ?_
    | refine wp_seqA ?_
    | refine wp_region_seq ?_
    | refine thru_seq_next ?_
    | refine thru_seq ?_
    | refine exit_here ?_
    | refine wp_skipA ?_
    | refine wp_retA ?_
    | refine wp_exitA ?_
    | refine wp_blockA ?_
    | refine wl_nil ?_
    | refine wl_pop rfl (po_move rfl) ?_
    | refine wl_pop rfl (po_assign rfl) ?_
    | refine wl_pop rfl (po_binOp rfl rfl rfl) ?_
    | refine wl_pop rfl (po_fieldAddr rfl inferInstance) ?_
    | refine wc_load1 rfl inferInstance (at_has (.inl rfl) rfl rfl) rfl ?_
    | refine wp_condP rfl (fun _ => ?_) (fun _ => ?_)
    | refine wl_pop rfl (pc_lenT rfl inferInstance inferInstance) ?_
    | refine at_ret (res1 rfl rfl) ?_
    | fail)
  rotate_left
  · obtain rfl : k = ps.length := by omega
    rw [List.take_length]
    exact ret_ inferInstance rfl
  have hk' : k < ps.length := by omega
  obtain ⟨id, off, s', rfl, hat, hrs⟩ := (inferInstance : RTs σ' s ps).part hk'
  have := hrs.one
  have hpl := Tm.txt_len ps[k]
  have hpc := cnts_part hk'
  repeat' (first
    | (refine wc_callR rfl inferInstance rfl (hp _ (List.getElem_mem hk') _ _ inferInstance) rfl ?_; intro _ _)
    | refine wl_pop rfl (pc_cat rfl rfl (by simp only [List.length_append, List.length_cons, List.length_nil]; omega)) ?_
    | refine wp_region_seq ?_
    | refine thru_seq_next ?_
    | refine thru_block_next ?_
    | refine wl_nil ?_
    | refine wl_pop rfl (po_move rfl) ?_
    | refine wl_pop rfl (po_assign rfl) ?_
    | refine wl_pop rfl (pc_add rfl rfl (by omega) (by omega)) ?_
    | refine wl_pop rfl (pc_indexAddr rfl rfl inferInstance inferInstance (by omega)) ?_
    | refine wc_loadn rfl inferInstance inferInstance rfl ?_
    | fail)
  exact ⟨k + 1, by omega, ⟨hk', inferInstance⟩, sub_str rfl (by rw [Tm.txts_take hk']; simp) (sub_int rfl (by simp) (sub_cons rfl sub_nil))⟩
theorem c_l2T_hide (n : Int) (hn : 0 ≤ n ∧ n ≤ 3) (ps : List Tm) (hc : Tm.cnts ps ≤ 1000000) (hp : ∀ p ∈ ps, CTx base F_spec_l2Text p) (σ : Store) (s : AV) [hs : RTs σ s ps] : ACall Tryd.prog base F_spec_l2Text [.agg [I 4, I n, s]] σ (fun _ => False) (Ret σ (Str (ofL (headT 4 n ++ Tm.txts ps ++ [41])))) := by
  have hbd := hs.bound
  have := hs.one
  have hal := actT_len n
  have hal1 := actT_len (n + 1)
  have hhl := headT_len 4 n
  have htl := Tm.txts_len ps
  refine acall1 fun_spec_l2Text rfl tmps_spec_l2Text rfl fun N B w₀ ρ₀ => ?_
  repeat' (first
    | refine wc_holdR 6 ?_
    | refine wp_seqA ?_
    | refine wp_region_seq ?_
    | refine thru_seq_next ?_
    | refine thru_block_next ?_
    | refine wp_skipA ?_
    | refine wp_blockA ?_
    | refine wl_nil ?_
    | refine wl_pop rfl (po_assign rfl) ?_
    | refine wl_pop rfl (po_binOp rfl rfl rfl) ?_
    | refine wl_pop rfl (po_fieldAddr rfl inferInstance) ?_
    | refine wc_load1 rfl inferInstance (at_has (.inl rfl) rfl rfl) rfl ?_
    | (refine wc_boxA rfl inferInstance rfl ?_; intro _ _ _ _ _)
    | refine wp_condF rfl ?_
    | fail)
  rename_i i1 σ1 g1 n1 h1
  refine hold_go ?_
  refine wc_drawn [] mixed_ rfl ?_
  all_goals (first | refine da_takeC 1 rfl rfl (by kernel_rfl) (by first | exact po_fieldAddr rfl inferInstance | fail) ?_ | (refine da_one 1 rfl (by kernel_rfl) (fun _ _ _ _ => ?_); (repeat' (first | fail)); all_goals (first | refine wl_nil ⟨rfl, (by first | exact LeS.len inferInstance | exact App.len (by assumption)), ?_⟩ | fail)))
  all_goals (first | refine da_takeC 2 rfl rfl (by kernel_rfl) (by first | exact pc_load1L rfl inferInstance (at_has (.inl rfl) rfl rfl) inferInstance | fail) ?_ | (refine da_one 2 rfl (by kernel_rfl) (fun _ _ _ _ => ?_); (repeat' (first | fail)); all_goals (first | refine wl_nil ⟨rfl, (by first | exact LeS.len inferInstance | exact App.len (by assumption)), ?_⟩ | fail)))
  all_goals (first | (refine da_one 0 rfl (by kernel_rfl) (fun _ _ _ _ => ?_); (repeat' (first | (refine wc_callOW rfl inferInstance rfl (c_l2Words _) rfl ?_; intro _ _ _ _ _) | fail)); all_goals (first | refine wl_nil ⟨rfl, (by first | exact LeS.len inferInstance | exact App.len (by assumption)), ?_⟩ | trace_state)))
  all_goals (first | refine da_takeC 3 rfl rfl (by kernel_rfl) (by first | fail) ?_ | (refine da_one 3 rfl (by kernel_rfl) (fun _ _ _ _ => ?_); (repeat' (first | refine wl_pop rfl (pc_indexRowZ rfl rfl inferInstance inferInstance inferInstance (by decide) (by decide)) ?_ | fail)); all_goals (first | refine wl_nil ⟨rfl, (by first | exact LeS.len inferInstance | exact App.len (by assumption)), ?_⟩ | fail)))
  all_goals (first | refine da_takeC 4 rfl rfl (by kernel_rfl) (by first | fail) ?_ | (refine da_one 4 rfl (by kernel_rfl) (fun _ _ _ _ => ?_); (repeat' (first | refine wl_pop rfl (pc_ldStrE [104, 105, 100, 101] rfl inferInstance inferInstance rfl inferInstance) ?_ | fail)); all_goals (first | refine wl_nil ⟨rfl, (by first | exact LeS.len inferInstance | exact App.len (by assumption)), ?_⟩ | fail)))
  all_goals (first | refine da_takeC 5 rfl rfl (by kernel_rfl) (by first | exact pc_cat (a := [40]) rfl rfl (by decide) | fail) ?_ | (refine da_one 5 rfl (by kernel_rfl) (fun _ _ _ _ => ?_); (repeat' (first | fail)); all_goals (first | refine wl_nil ⟨rfl, (by first | exact LeS.len inferInstance | exact App.len (by assumption)), ?_⟩ | fail)))
  all_goals (first | refine da_takeC 6 rfl rfl (by kernel_rfl) (by first | exact po_assign rfl | fail) ?_ | (refine da_one 6 rfl (by kernel_rfl) (fun _ _ _ _ => ?_); (repeat' (first | fail)); all_goals (first | refine wl_nil ⟨rfl, (by first | exact LeS.len inferInstance | exact App.len (by assumption)), ?_⟩ | fail)))
  all_goals refine da_done (by kernel_rfl) ?_
  repeat' (first
    | (refine wc_callR rfl inferInstance rfl (c_l1Text _ (by omega) (by omega) _) rfl ?_; intro _ _)
    | refine wl_pop rfl (pc_cat rfl rfl (by simp only [List.length_append, List.length_cons, List.length_nil]; omega)) ?_
    | refine wp_seqA ?_
    | refine wp_region_seq ?_
    | refine thru_seq_next ?_
    | refine wp_skipA ?_
    | refine wp_blockA ?_
    | refine wl_nil ?_
    | refine wl_pop rfl (po_move rfl) ?_
    | refine wl_pop rfl (po_assign rfl) ?_
    | refine wl_pop rfl (pc_add rfl rfl (by omega) (by omega)) ?_
    | refine wl_pop rfl (po_binOp rfl rfl rfl) ?_
    | refine wl_pop rfl (po_fieldAddr rfl inferInstance) ?_
    | refine wc_load1 rfl inferInstance (at_has (.inl rfl) rfl rfl) rfl ?_
    | refine wp_condT rfl ?_
    | refine wp_condF rfl ?_
    | fail)
  refine wc_loop [(1, _)] (fun k : Nat => [(3, Str (ofL (headT 4 n ++ Tm.txts (ps.take k)))), (4, I k)]) (fun k σ' => k ≤ ps.length ∧ LeS σ1 σ') (fun k => ps.length - k) 0 ⟨Nat.zero_le _, inferInstance⟩ (sub_str rfl (by simp [headT, Tm.txts]) (sub_int rfl (by simp) (sub_cons rfl sub_nil))) ?_
  rintro k σ' ⟨hk, hg⟩
  have := hg.grow
  have htk := txts_take_le ps k
  repeat' (first
    | refine wl_pop rfl (pc_cat rfl rfl (by simp only [List.length_append, List.length_cons, List.length_nil]; omega)) ?_
    | refine wp_seqA ?_
    | refine wp_region_seq ?_
    | refine thru_seq_next ?_
    | refine thru_seq ?_
    | refine exit_here ?_
    | refine wp_skipA ?_
    | refine wp_retA ?_
    | refine wp_exitA ?_
    | refine wp_blockA ?_
    | refine wl_nil ?_
    | refine wl_pop rfl (po_move rfl) ?_
    | refine wl_pop rfl (po_assign rfl) ?_
    | refine wl_pop rfl (po_binOp rfl rfl rfl) ?_
    | refine wl_pop rfl (po_fieldAddr rfl inferInstance) ?_
    | refine wc_load1 rfl inferInstance (at_has (.inl rfl) rfl rfl) rfl ?_
    | refine wp_condP rfl (fun _ => ?_) (fun _ => ?_)
    | refine wl_pop rfl (pc_lenT rfl inferInstance inferInstance) ?_
    | refine at_ret (res1 rfl rfl) ?_
    | fail)
  rotate_left
  · obtain rfl : k = ps.length := by omega
    rw [List.take_length]
    exact ret_ inferInstance rfl
  have hk' : k < ps.length := by omega
  obtain ⟨id, off, s', rfl, hat, hrs⟩ := (inferInstance : RTs σ' s ps).part hk'
  have := hrs.one
  have hpl := Tm.txt_len ps[k]
  have hpc := cnts_part hk'
  repeat' (first
    | (refine wc_callR rfl inferInstance rfl (hp _ (List.getElem_mem hk') _ _ inferInstance) rfl ?_; intro _ _)
    | refine wl_pop rfl (pc_cat rfl rfl (by simp only [List.length_append, List.length_cons, List.length_nil]; omega)) ?_
    | refine wp_region_seq ?_
    | refine thru_seq_next ?_
    | refine thru_block_next ?_
    | refine wl_nil ?_
    | refine wl_pop rfl (po_move rfl) ?_
    | refine wl_pop rfl (po_assign rfl) ?_
    | refine wl_pop rfl (pc_add rfl rfl (by omega) (by omega)) ?_
    | refine wl_pop rfl (pc_indexAddr rfl rfl inferInstance inferInstance (by omega)) ?_
    | refine wc_loadn rfl inferInstance inferInstance rfl ?_
    | fail)
  exact ⟨k + 1, by omega, ⟨hk', inferInstance⟩, sub_str rfl (by rw [Tm.txts_take hk']; simp) (sub_int rfl (by simp) (sub_cons rfl sub_nil))⟩
theorem c_l2Text (t : Tm) : t.shape = true → t.cnt ≤ 1000000 → CTx base F_spec_l2Text t := by
  induction t using Tm.ind with
  | _ op n ps ih =>
    intro hs hc
    obtain ⟨hno, hps⟩ := Tm.shape_node hs
    have hp : ∀ p ∈ ps, CTx base F_spec_l2Text p := fun p hp => by
      obtain ⟨k, hk, rfl⟩ := List.getElem_of_mem hp
      have := cnts_part hk
      simp only [Tm.cnt] at hc
      exact ih _ hp (hps _ hp) (by omega)
    have hcs : Tm.cnts ps ≤ 1000000 := by simp only [Tm.cnt] at hc; omega
    rw [nodeOk_iff] at hno
    rcases hno with ⟨rfl, rfl, hl⟩ | ⟨rfl, hn, hl⟩ | ⟨h23, rfl, hl⟩ | ⟨rfl, hn, hl⟩ | ⟨rfl, hn, hl⟩
    · obtain rfl : ps = [] := List.length_eq_zero_iff.mp hl
      intro σ s hr
      simpa [Tm.txt, Tm.op, Tm.n] using c_l2T_nil σ s (hs := hr)
    · intro σ s hr
      simpa [Tm.txt, Tm.op, Tm.n] using c_l2T_act n hn ps hcs hp σ s (hs := hr)
    · rcases h23 with rfl | rfl
      · intro σ s hr
        simpa [Tm.txt, Tm.op, Tm.n] using c_l2T_sum 0 rfl ps hcs hp σ s (hs := hr)
      · intro σ s hr
        simpa [Tm.txt, Tm.op, Tm.n] using c_l2T_par 0 rfl ps hcs hp σ s (hs := hr)
    · intro σ s hr
      simpa [Tm.txt, Tm.op, Tm.n] using c_l2T_hide n hn ps hcs hp σ s (hs := hr)
    · obtain rfl : ps = [] := List.length_eq_zero_iff.mp hl
      intro σ s hr
      simpa [Tm.txt, Tm.op, Tm.n] using c_l2T_call n hn σ s (hs := hr)
end
end Go.Proofs.YthbodgnoadlbcaaDoor.Asl
