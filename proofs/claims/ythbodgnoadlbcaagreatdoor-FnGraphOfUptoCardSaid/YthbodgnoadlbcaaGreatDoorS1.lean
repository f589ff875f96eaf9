/- Moves in order: the program's comparison in plain calls, the sorts at this program. -/
import Derived.Test.YthbodgnoadlbcaaGreatDoorSL
import Derived.Test.YthbodgnoadlbcaaGreatDoorS0
import Derived.Test.YthbodgnoadlbcaaGreatDoorG3
namespace Go.Proofs.YthbodgnoadlbcaaGreatDoor.Asl
open Go.RowKit Go.Proofs.YthbodgnoadlbcaaGreatDoorW.PrintLast Go.Sort Go.Shelf
set_option linter.unusedVariables false
set_option linter.unusedSimpArgs false

theorem cmp_calls (a b : Int) (W : World) : Calls Tryz.prog F_cmp_Compare_int #[.int .i64 a, .int .i64 b] W fun e w' => e = .returned (.int .i64 (Lib.compareInt a b)) ∧ w' = W :=
  AnyG.cmp_Compare_int Tryz.layCmpInt a b W
set_option maxHeartbeats 4000000 in
theorem byMove_calls (x y : Mv) (W : World) : Calls Tryz.prog F_impl_byMove #[.agg #[.int .i64 x.1, .int .i64 x.2], .agg #[.int .i64 y.1, .int .i64 y.2]] W fun e w' => e = .returned (.int .i64 (mcmp x y)) ∧ ∃ q os', w' = Go.Sort.grow (W.drewN q) os' := by
  have hc := cmp_calls
  have h1 : Lib.compareInt x.1 y.1 ≠ 0 → Lib.compareInt x.1 y.1 = mcmp x y := by
    unfold mcmp Lib.compareInt
    simp only [mlt_iff]
    repeat' (first | omega | split)
  have h2 : Lib.compareInt x.1 y.1 = 0 → Lib.compareInt x.2 y.2 = mcmp x y := by
    unfold mcmp Lib.compareInt
    simp only [mlt_iff]
    repeat' (first | omega | split)
  generalize Lib.compareInt = cf at hc h1 h2
  generalize mcmp x y = r at h1 h2 ⊢
  change ∀ a b W, Calls Tryz.prog 66 _ _ _ at hc
  go_enter Tryz.func37, Tryz.ntmps37
  go_wp2_with (go_at_call 66; refine (hc _ _ _).mono ?_; rintro e w' ⟨rfl, rfl⟩)
  · rename_i h
    have h' : cf x.1 y.1 ≠ 0 := by simpa using h
    go_ret
    exact ⟨by rw [h1 h']; rfl, 0, _, by rw [alloc_eq_grow, alloc_eq_grow, grow_grow]; rfl⟩
  · rename_i h
    have h' : cf x.1 y.1 = 0 := by simpa using h
    go_ret
    exact ⟨by rw [h2 h']; rfl, 0, _, by rw [alloc_eq_grow, alloc_eq_grow, grow_grow]; rfl⟩

theorem ltOf_mcmp (x y : Mv) : ltOf mcmp x y = mlt x y := by
  unfold ltOf
  by_cases h : mlt x y = true
  · rw [h, decide_eq_true (mcmp_neg.mpr h)]
  · rw [Bool.not_eq_true] at h
    rw [h, decide_eq_false (fun k => by rw [mcmp_neg, h] at k; cases k)]
theorem swo_mcmp : SWO (ltOf mcmp) where
  irrefl x := by rw [ltOf_mcmp]; simpa using mlt_irrefl x
  trans x y z h1 h2 := by rw [ltOf_mcmp] at *; exact mlt_trans h1 h2
  ntrans x y z h1 h2 := by
    simp only [ltOf_mcmp] at *
    rw [← Bool.not_eq_true, mlt_iff] at *
    omega
/-- Moves in order. -/
def sortM (l : List Mv) : List Mv := l.mergeSort fun x y => !(ltOf mcmp) y x
theorem sortM_perm (l : List Mv) : (sortM l).Perm l := List.mergeSort_perm _ _
theorem sortM_sorted (l : List Mv) : (sortM l).Pairwise fun a b => mlt b a = false := by
  have h := List.pairwise_mergeSort (le := fun (x y : Mv) => !(ltOf mcmp) y x) (fun a b c h1 h2 => by
    simp only [ltOf_mcmp, Bool.not_eq_true'] at *
    rw [← Bool.not_eq_true, mlt_iff] at *
    omega) (fun a b => by
    simp only [ltOf_mcmp]
    by_cases h : mlt b a = true
    · have := mlt_asymm h; simp [this]
    · simp [h]) l
  refine h.imp fun {a b} h => ?_
  simpa [ltOf_mcmp] using h
theorem tidy_sortM (l : List Mv) : compactL (sortM l) = tidyL l := compact_tidyL (sortM_sorted l) fun y => (sortM_perm l).mem_iff
section
variable {base : Nat}
theorem c_SortM {σ₀ : Store} (σ : Store) (s : AV) {l : List Mv} (h : OW σ₀ σ s l) : ACall Tryz.prog base F_slices_SortFunc_impl_Move_impl_Move ([s, .fn F_impl_byMove []] ++ []) σ (fun j => ∃ n, s = .sl j 0 n) (RetSort σ₀ σ s (sortM l)) :=
  acall_sortM Tryz.laySortMv (fun w => (inferInstance : Ty Tryz.prog 42 _ _ _ _).isAgg) (fun w => (inferInstance : Ty Tryz.prog 42 _ _ _ _).sizeOf) mcmp swo_mcmp (fun x y h1 h2 => by
    rw [ltOf_mcmp] at h1 h2
    rcases mlt_tri x y with h | h | h
    · rw [h] at h1; cases h1
    · exact h
    · rw [h] at h2; cases h2) F_impl_byMove (enters_of Tryz.func37 (by kernel_rfl) rfl) byMove_calls h
theorem c_SortN {σ₀ : Store} (σ : Store) (s : AV) {l : List Nat} (h : OW σ₀ σ s l) : ACall Tryz.prog base F_slices_Sort_int_int ([s] ++ []) σ (fun j => ∃ n, s = .sl j 0 n) (RetSort σ₀ σ s (sortN l)) :=
  acall_sortN Tryz.laySortInt h
end
end Go.Proofs.YthbodgnoadlbcaaGreatDoor.Asl
