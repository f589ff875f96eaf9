/- Several texts in one. -/
import Derived.Test.YthbodgnoadlbcaaGreatDoorSL
import Derived.Test.YthbodgnoadlbcaaGreatDoorS0
import Derived.Test.YthbodgnoadlbcaaGreatDoorG3
/- Moves in order: the program's comparison in plain calls, the sorts at this program. -/
namespace Go.Proofs.YthbodgnoadlbcaaGreatDoor.Asl
open Go.RowKit Go.Proofs.YthbodgnoadlbcaaGreatDoorW.PrintLast Go.Sort Go.Shelf
set_option linter.unusedVariables false
set_option linter.unusedSimpArgs false

theorem cmp_calls (a b : Int) (W : World) : Calls Tryz.prog F_cmp_Compare_int #[.int .i64 a, .int .i64 b] W fun e w' => e = .returned (.int .i64 (Lib.compareInt a b)) ∧ w' = W :=
  AnyG.cmp_Compare_int Tryz.layCmpInt a b W
set_option maxHeartbeats 4000000 in
theorem byMove_calls (x y : Mv) (W : World) : Calls Tryz.prog F_impl_byMove #[.agg #[.int .i64 x.1, .int .i64 x.2], .agg #[.int .i64 y.1, .int .i64 y.2]] W fun e w' => e = .returned (.int .i64 (mcmp x y)) ∧ ∃ q os', w' = Go.Sort.grow (W.drewN q) os' := by
  have hc := cmp_calls
  have h1 : Lib.compareInt x.1 y.1 ≠ 0 → Lib.compareInt x.1 y.1 = mcmp x y := by
    unfold mcmp Lib.compareInt
    simp only [mlt_iff]
    repeat' (first | omega | split)
  have h2 : Lib.compareInt x.1 y.1 = 0 → Lib.compareInt x.2 y.2 = mcmp x y := by
    unfold mcmp Lib.compareInt
    simp only [mlt_iff]
    repeat' (first | omega | split)
  generalize Lib.compareInt = cf at hc h1 h2
  generalize mcmp x y = r at h1 h2 ⊢
  change ∀ a b W, Calls Tryz.prog 66 _ _ _ at hc
  go_enter Tryz.func37, Tryz.ntmps37
  go_wp2_with (go_at_call 66; refine (hc _ _ _).mono ?_; rintro e w' ⟨rfl, rfl⟩)
  · rename_i h
    have h' : cf x.1 y.1 ≠ 0 := by simpa using h
    go_ret
    exact ⟨by rw [h1 h']; rfl, 0, _, by rw [alloc_eq_grow, alloc_eq_grow, grow_grow]; rfl⟩
  · rename_i h
    have h' : cf x.1 y.1 = 0 := by simpa using h
    go_ret
    exact ⟨by rw [h2 h']; rfl, 0, _, by rw [alloc_eq_grow, alloc_eq_grow, grow_grow]; rfl⟩

theorem ltOf_mcmp (x y : Mv) : ltOf mcmp x y = mlt x y := by
  unfold ltOf
  by_cases h : mlt x y = true
  · rw [h, decide_eq_true (mcmp_neg.mpr h)]
  · rw [Bool.not_eq_true] at h
    rw [h, decide_eq_false (fun k => by rw [mcmp_neg, h] at k; cases k)]
theorem swo_mcmp : SWO (ltOf mcmp) where
  irrefl x := by rw [ltOf_mcmp]; simpa using mlt_irrefl x
  trans x y z h1 h2 := by rw [ltOf_mcmp] at *; exact mlt_trans h1 h2
  ntrans x y z h1 h2 := by
    simp only [ltOf_mcmp] at *
    rw [← Bool.not_eq_true, mlt_iff] at *
    omega
def sortM (l : List Mv) : List Mv := l.mergeSort fun x y => !(ltOf mcmp) y x
theorem sortM_perm (l : List Mv) : (sortM l).Perm l := List.mergeSort_perm _ _
theorem sortM_sorted (l : List Mv) : (sortM l).Pairwise fun a b => mlt b a = false := by
  have h := List.pairwise_mergeSort (le := fun (x y : Mv) => !(ltOf mcmp) y x) (fun a b c h1 h2 => by
    simp only [ltOf_mcmp, Bool.not_eq_true'] at *
    rw [← Bool.not_eq_true, mlt_iff] at *
    omega) (fun a b => by
    simp only [ltOf_mcmp]
    by_cases h : mlt b a = true
    · have := mlt_asymm h; simp [this]
    · simp [h]) l
  refine h.imp fun {a b} h => ?_
  simpa [ltOf_mcmp] using h
theorem tidy_sortM (l : List Mv) : compactL (sortM l) = tidyL l := compact_tidyL (sortM_sorted l) fun y => (sortM_perm l).mem_iff
section
variable {base : Nat}
theorem c_SortM {σ₀ : Store} (σ : Store) (s : AV) {l : List Mv} (h : OW σ₀ σ s l) : ACall Tryz.prog base F_slices_SortFunc_impl_Move_impl_Move ([s, .fn F_impl_byMove []] ++ []) σ (fun j => ∃ n, s = .sl j 0 n) (RetSort σ₀ σ s (sortM l)) :=
  acall_sortM Tryz.laySortMv (fun w => (inI : Ty Tryz.prog 42 _ _ _ _).isAgg) (fun w => (inI : Ty Tryz.prog 42 _ _ _ _).sizeOf) mcmp swo_mcmp (fun x y h1 h2 => by
    rw [ltOf_mcmp] at h1 h2
    rcases mlt_tri x y with h | h | h
    · rw [h] at h1; cases h1
    · exact h
    · rw [h] at h2; cases h2) F_impl_byMove (enters_of Tryz.func37 (by kernel_rfl) rfl) byMove_calls h
end
end Go.Proofs.YthbodgnoadlbcaaGreatDoor.Asl

/- Moves tidied: sorted, and neighbours that are the same once. -/
namespace Go.Proofs.YthbodgnoadlbcaaGreatDoor.Asl
open Go.RowKit Go.Proofs.YthbodgnoadlbcaaGreatDoorW.PrintLast
set_option linter.unusedVariables false
set_option linter.unusedSimpArgs false
attribute [local irreducible] WP WL andThen inBlock noGoto atEnd ACall DA DL PO Hold
set_option maxHeartbeats 4000000
set_option synthInstance.maxHeartbeats 400000
set_option synthInstance.maxSize 10000

theorem compactL_snoc (a : List Mv) (x y : Mv) : compactL (a ++ [x, y]) = if x = y then compactL (a ++ [x]) else compactL (a ++ [x]) ++ [y] := by
  induction a with
  | nil =>
    simp only [List.nil_append, compactL]
    split
    · rename_i h; rw [h]
    · rfl
  | cons b a ih =>
    cases a with
    | nil =>
      simp only [List.cons_append, List.nil_append, compactL] at ih ⊢
      by_cases h1 : b = x <;> by_cases h2 : x = y <;> simp [h1, h2]
    | cons c a =>
      simp only [List.cons_append, compactL] at ih ⊢
      rw [ih]
      by_cases h1 : b = c <;> by_cases h2 : x = y <;> simp [h1, h2]
theorem compactL_take {l : List Mv} {k : Nat} (h0 : 1 ≤ k) (hk : k < l.length) : compactL (l.take (k + 1)) = if l.getD (k - 1) (0, 0) = l.getD k (0, 0) then compactL (l.take k) else compactL (l.take k) ++ [l.getD k (0, 0)] := by
  obtain ⟨j, rfl⟩ : ∃ j, k = j + 1 := ⟨k - 1, by omega⟩
  rw [take_succ_getD hk (d := (0, 0)), take_succ_getD (show j < l.length by omega) (d := (0, 0)), List.append_assoc]
  exact compactL_snoc _ _ _
theorem compactL_short {l : List Mv} (h : l.length < 2) : compactL l = l := by
  match l, h with
  | [], _ => rfl
  | [x], _ => rfl
def RetTidy (σ₀ σ : Store) (s : AV) {α : Type} [Enc α] (l : List α) : AV → Store → Prop := fun r' σ' => OW σ₀ σ' r' l ∧ ∀ (j : Nat) (o : Ob), (∀ n, s ≠ .sl j 0 n) → σ[j]? = some o → σ'[j]? = some o
section
variable {base : Nat}
theorem c_Compact {σ₀ : Store} (σ : Store) (s : AV) {l : List Mv} (hs : OW σ₀ σ s l) : ACall Tryz.prog base F_slices_Compact_impl_Move_impl_Move ([s] ++ []) σ (fun j => ∃ n, s = .sl j 0 n) (RetTidy σ₀ σ s (compactL l)) := by
  have hb := hs.bound
  have hone := hs.one
  have hrw := hs.rw
  refine acall1 fun_slices_Compact_impl_Move_impl_Move rfl tmps_slices_Compact_impl_Move_impl_Move rfl fun N B w₀ ρ₀ => ?_
  repeat' (first
    | refine wl_pop rfl (pc_lenRow rfl inI inI) ?_
    | refine wp_seqA ?_
    | refine wp_region_seq ?_
    | refine thru_seq_next ?_
    | refine thru_seq_ret ?_
    | refine wp_skipA ?_
    | refine wp_retA ?_
    | refine wp_blockA ?_
    | refine wl_nil ?_
    | refine wl_pop rfl (po_move rfl) ?_
    | refine wl_pop rfl (po_assign rfl) ?_
    | refine wl_pop rfl (po_binOp rfl rfl rfl) ?_
    | refine wp_condP rfl (fun _ => ?_) (fun _ => ?_)
    | refine at_ret (res1 rfl rfl) ?_
    | fail)
  · rename_i h2
    rw [compactL_short (by omega)]
    exact ⟨hs, fun _ _ _ h => h⟩
  rename_i h2
  have hn2 : 2 ≤ l.length := by omega
  rcases hs.rep with ⟨rfl, _⟩ | ⟨i, rfl, hi0, hi⟩
  · simp at hn2
  clear hrw hone
  refine wc_loop [(0, _)] (fun k : Nat => [(3, I k)]) (fun k σ' => 1 ≤ k ∧ k ≤ l.length ∧ compactL (l.take k) = l.take k ∧ Has σ' i (Row l) ∧ LeX i σ σ') (fun k => l.length - k) 1 ⟨Nat.le_refl _, by omega, compactL_short (by simp; omega), hi, LeX.refl i σ⟩ (by repeat' (first | exact sub_nil | refine sub_cons rfl ?_ | refine sub_int rfl (by first | rfl | omega | (push_cast; omega) | simp) ?_ | refine sub_eq rfl (by assumption) ?_)) ?_
  rintro k σ1 ⟨hk1, hk, hc, hh, hl⟩
  have hrw : RW σ1 (.sl i 0 l.length) l := rw_of_has hh rfl hb
  repeat' (first
    | refine wl_pop rfl (pc_lenRow rfl inI inI) ?_
    | refine wp_seqA ?_
    | refine wp_region_seq ?_
    | refine thru_seq_next ?_
    | refine thru_seq ?_
    | refine exit_here ?_
    | refine wp_skipA ?_
    | refine wp_retA ?_
    | refine wp_exitA ?_
    | refine wp_blockA ?_
    | refine wl_nil ?_
    | refine wl_pop rfl (po_move rfl) ?_
    | refine wl_pop rfl (po_assign rfl) ?_
    | refine wl_pop rfl (po_binOp rfl rfl rfl) ?_
    | refine wp_condP rfl (fun _ => ?_) (fun _ => ?_)
    | refine at_ret (res1 rfl rfl) ?_
    | fail)
  rotate_left
  · obtain rfl : k = l.length := by omega
    rw [List.take_length] at hc
    rw [hc]
    exact ⟨ow_of_has hh hi0 rfl hb, fun j o hj ho => hl.keep j o (fun e => hj l.length (by rw [e])) ho⟩
  have hk' : k < l.length := by omega
  clear hrw
  refine wc_drawn [] mixed_ rfl ?_
  all_goals refine da_takeC 0 rfl rfl (by kernel_rfl) (by first | exact po_move rfl | fail) ?_
  all_goals refine da_takeC 1 rfl rfl (by kernel_rfl) (by first | exact po_move rfl | fail) ?_
  all_goals refine da_takeC 2 rfl rfl (by kernel_rfl) (by first | exact pc_indexSlZ rfl rfl inI inI (by omega) (by omega) | fail) ?_
  all_goals refine da_takeC 3 rfl rfl (by kernel_rfl) (by first | exact pc_loMv rfl inI inI (by omega) inI | fail) ?_
  all_goals refine da_takeC 4 rfl rfl (by kernel_rfl) (by first | exact po_move rfl | fail) ?_
  all_goals refine da_takeC 5 rfl rfl (by kernel_rfl) (by first | exact po_move rfl | fail) ?_
  all_goals refine da_takeC 6 rfl rfl (by kernel_rfl) (by first | exact pc_sub rfl rfl (by omega) (by omega) | fail) ?_
  all_goals refine da_takeC 7 rfl rfl (by kernel_rfl) (by first | exact pc_indexSlZ rfl rfl inI inI (by omega) (by omega) | fail) ?_
  all_goals refine da_takeC 8 rfl rfl (by kernel_rfl) (by first | exact pc_loMv rfl inI inI (by omega) inI | fail) ?_
  all_goals refine da_takeC 9 rfl rfl (by kernel_rfl) (by first | exact pc_eqMv rfl rfl inI | fail) ?_
  all_goals refine da_done (by kernel_rfl) ?_
  have ek : ((k : Nat) : Int).toNat = k := Int.toNat_natCast k
  have ek1 : ((k : Int) - 1).toNat = k - 1 := by omega
  repeat' (first
    | refine wl_pop rfl (pc_sliceLo rfl rfl inI inI hh (.inr rfl) rfl (by omega)) ?_
    | refine wp_seqA ?_
    | refine wp_region_seq ?_
    | refine thru_seq_next ?_
    | refine thru_block_next ?_
    | refine wp_skipA ?_
    | refine wp_blockA ?_
    | refine wl_nil ?_
    | refine wl_pop rfl (po_move rfl) ?_
    | refine wl_pop rfl (po_assign rfl) ?_
    | refine wl_pop rfl (pc_add rfl rfl (by omega) (by omega)) ?_
    | refine wp_condP rfl (fun _ => ?_) (fun _ => ?_)
    | fail)
  rotate_left
  · rename_i hne
    rw [ek, ek1] at hne
    have h1 := compactL_take hk1 hk'
    rw [if_neg (fun e => hne (by rw [e]; exact ⟨rfl, rfl⟩)), hc, ← take_succ_getD hk'] at h1
    exact ⟨k + 1, by omega, ⟨by omega, by omega, h1, hh, hl⟩, (by repeat' (first | exact sub_nil | refine sub_cons rfl ?_ | refine sub_int rfl (by first | rfl | omega | (push_cast; omega) | simp) ?_ | refine sub_eq rfl (by assumption) ?_))⟩
  rename_i he
  rw [ek, ek1] at he
  have he' : l.getD (k - 1) (0, 0) = l.getD k (0, 0) := (Prod.ext he.1 he.2).symm
  have h1 := compactL_take hk1 hk'
  rw [if_pos he', hc] at h1
  refine wc_loop [(0, _), (4, _)] (fun x : Nat × Nat × List Mv => [(3, I x.1), (5, I x.2.1)]) (fun x σ' => 1 ≤ x.2.1 ∧ x.2.1 ≤ l.length - k ∧ 1 ≤ x.1 ∧ x.1 ≤ k + x.2.1 - 1 ∧ x.2.2.length = l.length ∧ x.2.2.take x.1 = compactL (l.take (k + x.2.1)) ∧ (∀ j, k + x.2.1 - 1 ≤ j → x.2.2.getD j (0, 0) = l.getD j (0, 0)) ∧ Has σ' i (Row x.2.2) ∧ LeX i σ σ') (fun x => l.length - k - x.2.1) (k, 1, l) ⟨Nat.le_refl _, by dsimp only; omega, hk1, by dsimp only; omega, rfl, h1.symm, fun _ _ => rfl, hh, hl⟩ (by repeat' (first | exact sub_nil | refine sub_cons rfl ?_ | refine sub_int rfl (by first | rfl | omega | (push_cast; omega) | simp) ?_ | refine sub_eq rfl (by assumption) ?_)) ?_
  rintro ⟨q, p, c⟩ σ2 ⟨hp1, hp, hq1, hq, hcl, hct, hcj, hh2, hl2⟩
  dsimp only at hp1 hp hq1 hq hcl hct hcj hh2 ⊢
  repeat' (first
    | refine wl_pop rfl (pc_sliceLo rfl rfl inI inI hh2 (.inr rfl) rfl (by omega)) ?_
    | (refine wc_clear rfl Un.eq inI rfl (by decide) hh2 (by rw [rowCells_length]; show _ ≤ c.length * 2; omega) (.inl ⟨_, rfl⟩) rfl ?_; intro _ _ _ _)
    | refine wp_seqA ?_
    | refine wp_region_seq ?_
    | refine thru_seq_next ?_
    | refine thru_seq ?_
    | refine exit_here ?_
    | refine wp_skipA ?_
    | refine wp_exitA ?_
    | refine wp_blockA ?_
    | refine wl_nil ?_
    | refine wl_pop rfl (po_move rfl) ?_
    | refine wl_pop rfl (po_binOp rfl rfl rfl) ?_
    | refine wl_pop rfl (po_len (ri := 0) rfl Un.eq) ?_
    | refine wp_condP rfl (fun _ => ?_) (fun _ => ?_)
    | fail)
  rotate_left
  · rename_i hpl σ3 ws hws u3
    have h3 : Has σ3 i _ := instHasUpd (g := u3)
    refine wl_trim (q * 2) h3 fun σ4 u4 => ?_
    have h4 : Has σ4 i _ := instHasUpd (g := u4)
    have e4 : ((splice (rowCells c) (0 + q * 2) ws).take (q * 2)) = rowCells (c.take q) := by
      have hsp : rowCells c = rowCells (c.take q) ++ rowCells (c.drop q) := by rw [← rowCells_append, List.take_append_drop]
      have hl4 : (rowCells (c.take q)).length = q * 2 := by rw [rowCells_length, List.length_take, Nat.min_eq_left (by omega)]; rfl
      unfold splice
      rw [Nat.zero_add, List.append_assoc, hsp, List.take_left' hl4, List.take_left' hl4]
    rw [e4] at h4
    repeat' (first
      | refine wl_pop rfl (pc_sliceHi rfl rfl inI inI h4 (.inr rfl) rfl (by omega)) ?_
      | refine thru_seq_next ?_
      | refine thru_seq_ret ?_
      | refine thru_block_ret ?_
      | refine wp_retA ?_
      | refine wl_nil ?_
      | refine wl_pop rfl (po_assign rfl) ?_
      | refine at_ret (res1 rfl rfl) ?_
      | fail)
    rw [show k + p = l.length by omega, List.take_length] at hct
    rw [hct] at h4
    have hlen := congrArg List.length hct
    rw [List.length_take, Nat.min_eq_left (by omega)] at hlen
    refine ⟨ow_of_has h4 hi0 hlen.symm (by omega), fun j o hj ho => ?_⟩
    have hji : j ≠ i := fun e => hj l.length (by rw [e])
    rw [u4.eq, List.getElem?_set_ne (Ne.symm hji), u3.eq, List.getElem?_set_ne (Ne.symm hji)]
    exact hl2.keep j o hji ho
  have hpl : p < l.length - k := by omega
  have hA3 : At σ2 i (0 + k * 2 + p * 2) 2 [I (l.getD (k + p) (0, 0)).1, I (l.getD (k + p) (0, 0)).2] := by
    have h := at_own (k := k + p) hh2 (by omega)
    rw [show c.getD (k + p) Enc.dflt = l.getD (k + p) (0, 0) from hcj _ (by omega), show 0 + (k + p) * Enc.e Mv = 0 + k * 2 + p * 2 by show 0 + (k + p) * 2 = _; omega] at h
    exact h
  have hA4 : At σ2 i (0 + k * 2 + ((p : Nat) : Int).toNat * 2) 2 [I (l.getD (k + p) (0, 0)).1, I (l.getD (k + p) (0, 0)).2] := by
    rw [Int.toNat_natCast]; exact hA3
  have hA5 : At σ2 i (0 + k * 2 + ((p : Int) - 1).toNat * 2) 2 [I (l.getD (k + p - 1) (0, 0)).1, I (l.getD (k + p - 1) (0, 0)).2] := by
    have h := at_own (k := k + p - 1) hh2 (by omega)
    rw [show c.getD (k + p - 1) Enc.dflt = l.getD (k + p - 1) (0, 0) from hcj _ (by omega), show 0 + (k + p - 1) * Enc.e Mv = 0 + k * 2 + ((p : Int) - 1).toNat * 2 by show 0 + (k + p - 1) * 2 = _; omega] at h
    exact h
  refine wc_drawn [] mixed_ rfl ?_
  all_goals refine da_takeC 0 rfl rfl (by kernel_rfl) (by first | exact po_move rfl | fail) ?_
  all_goals refine da_takeC 1 rfl rfl (by kernel_rfl) (by first | exact po_move rfl | fail) ?_
  all_goals refine da_takeC 2 rfl rfl (by kernel_rfl) (by first | exact pc_indexSlZ rfl rfl inI inI (by omega) (by omega) | fail) ?_
  all_goals refine da_takeC 3 rfl rfl (by kernel_rfl) (by first | exact pc_loadnL rfl inI inI inI | fail) ?_
  all_goals refine da_takeC 4 rfl rfl (by kernel_rfl) (by first | exact po_move rfl | fail) ?_
  all_goals refine da_takeC 5 rfl rfl (by kernel_rfl) (by first | exact po_move rfl | fail) ?_
  all_goals refine da_takeC 6 rfl rfl (by kernel_rfl) (by first | exact pc_sub rfl rfl (by omega) (by omega) | fail) ?_
  all_goals refine da_takeC 7 rfl rfl (by kernel_rfl) (by first | exact pc_indexSlZ rfl rfl inI inI (by omega) (by omega) | fail) ?_
  all_goals refine da_takeC 8 rfl rfl (by kernel_rfl) (by first | exact pc_loadnL rfl inI inI inI | fail) ?_
  all_goals refine da_takeC 9 rfl rfl (by kernel_rfl) (by first | exact pc_neMv rfl rfl inI | fail) ?_
  all_goals refine da_done (by kernel_rfl) ?_
  repeat' (first
    | (refine wc_storeEl (α := Mv) (u := (_, _)) rfl rfl inI inI rfl (one_mv _ _) (by omega) (.inl ⟨_, rfl⟩) ?_; intro _ _)
    | refine wp_seqA ?_
    | refine wp_region_seq ?_
    | refine thru_seq_next ?_
    | refine thru_block_next ?_
    | refine wp_skipA ?_
    | refine wl_nil ?_
    | refine wl_pop rfl (po_move rfl) ?_
    | refine wl_pop rfl (po_assign rfl) ?_
    | refine wl_pop rfl (pc_add rfl rfl (by omega) (by omega)) ?_
    | refine wl_pop rfl (pc_indexAddr rfl rfl inI inI (by omega)) ?_
    | refine wc_loadn rfl inI inI rfl ?_
    | refine wp_condNP rfl (fun _ => ?_) (fun _ => ?_)
    | fail)
  · rename_i hne σ3 u3
    have h3 : Has σ3 i _ := instHasUpd (g := u3)
    have h2 := compactL_take (l := l) (k := k + p) (by omega) (by omega)
    rw [if_neg (fun e => hne (by rw [e]; exact ⟨rfl, rfl⟩)), ← hct] at h2
    refine ⟨(q + 1, p + 1, c.set q (l.getD (k + p) (0, 0))), by dsimp only; omega, ⟨by dsimp only; omega, by dsimp only; omega, by dsimp only; omega, by dsimp only; omega, by simp [hcl], ?_, fun j hj => ?_, h3, hl2.upd u3⟩, (by repeat' (first | exact sub_nil | refine sub_cons rfl ?_ | refine sub_int rfl (by first | rfl | omega | (push_cast; omega) | simp) ?_ | refine sub_eq rfl (by assumption) ?_))⟩
    · dsimp only
      rw [show k + (p + 1) = k + p + 1 by omega, h2, List.take_succ_eq_append_getElem (by simp; omega), List.take_set_of_le (Nat.le_refl _)]
      simp
    · dsimp only at hj ⊢
      rw [List.getD_eq_getElem?_getD, List.getElem?_set_ne (by omega), ← List.getD_eq_getElem?_getD]
      exact hcj j (by omega)
  · rename_i hee
    have h2 := compactL_take (l := l) (k := k + p) (by omega) (by omega)
    rw [if_pos (Prod.ext hee.1 hee.2).symm, ← hct] at h2
    exact ⟨(q, p + 1, c), by dsimp only; omega, ⟨by dsimp only; omega, by dsimp only; omega, hq1, by dsimp only; omega, hcl, by dsimp only; rw [show k + (p + 1) = k + p + 1 by omega, h2], fun j hj => hcj j (by dsimp only at hj; omega), hh2, hl2⟩, (by repeat' (first | exact sub_nil | refine sub_cons rfl ?_ | refine sub_int rfl (by first | rfl | omega | (push_cast; omega) | simp) ?_ | refine sub_eq rfl (by assumption) ?_))⟩
end
section
variable {α : Type} [Enc α] {E : Env} {ops : Array Oper} {l : List Oper} {Q : Exit → Slots → Store → Prop} {S : Slots} {σ : Store} {d : Option Tmp} {ty : TypeId} {pos : String} {af : Array Edge} {x y : Operand}
theorem wc_callTidy {args : Array Operand} {ats : Array TypeId} {f : FuncId} {rs caps : List AV} {s : AV} {g g' : List α} (σa σb : Store) (hf : S.ev x = some (.fn f caps)) (hc : Callable E.P f) (hargs : evs S args.toList = some rs)
    (hg : OW σa σ s g') (hb : OW σa σb s g') (h : ACall E.P E.base f (rs ++ caps) σ (fun j => ∃ n, s = .sl j 0 n) (RetTidy σa σ s g)) (hm : ∀ i, σa.length ≤ i → E.may i) (hd : okd E d = true)
    (k : ∀ u σ', Mk σ σa σb σ' → OW σa σ' u g → One u → WL E ops l Q (S.put d u) σ') :
    WL E ops (⟨d, .call ⟨.value x, args, ats⟩, ty, pos, af, none⟩ :: l) Q S σ :=
  wl_call hf hc hargs h (fun i ⟨n, hi⟩ => by
    obtain ⟨h1, _, h2⟩ := hg.id_lt hi
    exact ⟨hm i h1, _, h2.get, .inl rfl⟩) hd fun r' σ' hK => by
    obtain ⟨h1, h3⟩ := hK
    exact k r' σ' ⟨fun j o hj => h3 j o (fun n hn => by
      have h4 := (hg.id_lt hn).1
      have h5 := (hb.id_lt hn).2.1
      omega)⟩ h1 h1.one
end
section
variable {base : Nat}
theorem c_tidy {σ₀ : Store} (σ : Store) (s : AV) {l : List Mv} (hs : OW σ₀ σ s l) : ACall Tryz.prog base F_impl_tidy ([s] ++ []) σ (fun j => ∃ n, s = .sl j 0 n) (RetTidy σ₀ σ s (tidyL l)) := by
  have hb := hs.bound
  have hone := hs.one
  refine acall1 fun_impl_tidy rfl tmps_impl_tidy rfl fun N B w₀ ρ₀ => ?_
  repeat' (first
    | (refine wl_call rfl inI rfl (c_SortM σ s hs) (fun i ⟨n, hi⟩ => ⟨.inl ⟨n, hi⟩, _, (hs.id_lt hi).2.2.get, .inl rfl⟩) rfl ?_)
    | refine wp_seqA ?_
    | refine wp_region_seq ?_
    | refine thru_seq_next ?_
    | refine wl_nil ?_
    | refine wl_pop rfl (po_move rfl) ?_
    | refine wl_pop rfl (po_assign rfl) ?_
    | fail)
  rintro _ σ1 ⟨rfl, h1, k1⟩
  repeat' (first
    | (refine wl_call rfl inI rfl (c_Compact σ1 s h1) (fun i ⟨n, hi⟩ => ⟨.inl ⟨n, hi⟩, _, (h1.id_lt hi).2.2.get, .inl rfl⟩) rfl ?_)
    | refine wp_seqA ?_
    | refine wp_region_seq ?_
    | refine thru_seq_next ?_
    | refine wl_nil ?_
    | refine wl_pop rfl (po_move rfl) ?_
    | fail)
  rintro u σ2 ⟨h2, k2⟩
  have := h2.one
  repeat' (first
    | refine thru_seq_next ?_
    | refine wp_retA ?_
    | refine wl_nil ?_
    | refine wl_pop rfl (po_assign rfl) ?_
    | refine at_ret (res1 rfl rfl) ?_
    | fail)
  rw [← tidy_sortM]
  exact ⟨h2, fun j o hj ho => k2 j o hj (k1 j o hj ho)⟩
end
end Go.Proofs.YthbodgnoadlbcaaGreatDoor.Asl
