/- The states to which one comes, in order: the program's answer. -/
import Derived.Test.YthbodgnoadlbcaaGreatDoorS2
import Derived.Test.YthbodgnoadlbcaaGreatDoorG19
import Derived.Test.YthbodgnoadlbcaaGreatDoorG9
namespace Go.Proofs.YthbodgnoadlbcaaGreatDoor.Asl
open Go.RowKit Go.Proofs.YthbodgnoadlbcaaGreatDoorW.PrintLast
set_option linter.unusedVariables false
set_option linter.unusedSimpArgs false
attribute [local irreducible] WP WL andThen inBlock noGoto atEnd ACall DA DL PO Hold
set_option maxHeartbeats 4000000
set_option synthInstance.maxHeartbeats 400000
set_option synthInstance.maxSize 10000

theorem asc_unique {a b : List Nat} (ha : a.Pairwise (· < ·)) (hb : b.Pairwise (· < ·)) (h : ∀ x, x ∈ a ↔ x ∈ b) : a = b := by
  have key : ∀ {l : List Nat}, l.Pairwise (· < ·) → Srt (l.map fun (n : Nat) => (((n : Nat) : Int), (0 : Int))) := by
    intro l hl
    unfold Srt
    rw [List.pairwise_map]
    exact hl.imp fun {x y} hxy => by rw [mlt_iff]; left; show (x : Int) < y; omega
  have e := srt_unique (key ha) (key hb) fun y => by
    simp only [List.mem_map]
    constructor
    · rintro ⟨n, hn, rfl⟩; exact ⟨n, (h n).mp hn, rfl⟩
    · rintro ⟨n, hn, rfl⟩; exact ⟨n, (h n).mpr hn, rfl⟩
  have e2 := congrArg (fun l : List (Int × Int) => l.map fun p => p.1.toNat) e
  simp only [List.map_map] at e2
  have hid : ((fun p : Int × Int => p.1.toNat) ∘ fun (n : Nat) => (((n : Nat) : Int), (0 : Int))) = id := by funext n; simp
  rw [hid, List.map_id, List.map_id] at e2
  exact e2
theorem sortN_reach {l : List Nat} (n : Nat) (hnd : l.Nodup) (hlt : ∀ x ∈ l, x < n) : sortN l = (List.range n).filter fun x => decide (x ∈ l) := by
  have hp := sortN_perm l
  refine asc_unique ?_ (List.Pairwise.filter _ List.pairwise_lt_range) fun x => ?_
  · have h1 := sortN_sorted l
    have h2 : (sortN l).Pairwise (· ≠ ·) := hp.symm.nodup hnd
    exact (h1.and h2).imp fun {a b} ⟨h, k⟩ => by omega
  · rw [hp.mem_iff, List.mem_filter, List.mem_range]
    simp only [decide_eq_true_eq]
    exact ⟨fun h => ⟨hlt x h, h⟩, fun h => h.2⟩
section
variable {base : Nat}
theorem c_GraphReach (σ : Store) (s : AV) {ss : List AV} {g : Gr} [hs : RW σ s ss] [hg : RRs σ ss g] : ACall Tryz.prog base F_impl_GraphReach [.agg [s]] σ (fun _ => False) (RetOW σ ((optB (GOk g) (reachL g)).getD [])) := by
  have hb := hs.bound
  have := hs.one
  have hl := hg.len
  refine acall1 fun_impl_GraphReach rfl tmps_impl_GraphReach rfl fun N B w₀ ρ₀ => ?_
  repeat' (first
    | (refine wc_callR rfl inferInstance rfl (c_GraphOk _ _) rfl ?_; intro _ _)
    | (refine wc_callOW rfl inferInstance rfl (c_reached _ _ 0 (by assumption) (GOk.pos (by assumption))) rfl ?_; intro _ _ _ _ _)
    | refine wc_loadn rfl inferInstance (at_has (cs := [_]) (.inl rfl) rfl rfl) rfl ?_
    | refine wp_condNPr rfl (fun _ => ?_) (fun _ => ?_)
    | refine wp_seqA ?_
    | refine wp_region_seq ?_
    | refine thru_seq_next ?_
    | refine thru_seq_ret ?_
    | refine wp_skipA ?_
    | refine wp_retA ?_
    | refine wl_nil ?_
    | refine wl_pop rfl (po_move rfl) ?_
    | refine wl_pop rfl (po_assign rfl) ?_
    | refine wl_pop rfl (po_not rfl) ?_
    | (refine wc_boxA rfl inferInstance rfl ?_; intro _ _ _ _ _)
    | refine at_ret (res1 rfl rfl) ?_
    | fail)
  · rename_i hno
    rw [optB_getD_no hno]
    exact ret_ow (σ₁ := σ) (OW.nilS _ _) instLeRefl inferInstance rfl
  rename_i i1 σ1 g1 n1 h1 σ2 g2 hok u σ3 ou wu gu
  have hf := (from_props hok hok.pos).1
  refine wc_callSort σ2 σ3 rfl inferInstance rfl wu wu (c_SortN _ u wu) (may_ge σ2) rfl fun σ4 m4 wu4 => ?_
  have := wu4.one
  repeat' (first
    | refine wp_seqA ?_
    | refine wp_region_seq ?_
    | refine thru_seq_next ?_
    | refine wp_retA ?_
    | refine wl_nil ?_
    | refine wl_pop rfl (po_move rfl) ?_
    | refine wl_pop rfl (po_assign rfl) ?_
    | refine at_ret (res1 rfl rfl) ?_
    | fail)
  rw [optB_getD_yes hok]
  refine ret_ow wu4 (inferInstance : LeS σ σ2) inferInstance (sortN_reach g.length hf.nodup hf.lt)
end
end Go.Proofs.YthbodgnoadlbcaaGreatDoor.Asl
