/- Several texts in one. -/
import Derived.Test.YtcmkkmlgdkhmiaaGG
import Derived.Test.YtcmkkmlgdkhmiaaG2
import Derived.Test.YtcmkkmlgdkhmiaaS3
import Derived.Test.YtcmkkmlgdkhmiaaK6
import Derived.Test.YtcmkkmlgdkhmiaaS6
import Derived.Test.YtcmkkmlgdkhmiaaG6
import Derived.Test.YtcmkkmlgdkhmiaaPP
/- The drawn laws' helpers on lists of numbers and on graphs. -/
namespace Go.Proofs.Ytcmkkmlgdkhmiaa.Asl
open Go.RowKit Go.Proofs.YtcmkkmlgdkhmiaaW.PrintLast
set_option linter.unusedVariables false
set_option linter.unusedSimpArgs false
attribute [local irreducible] WP WL andThen inBlock noGoto atEnd ACall DA DL PO Hold
set_option maxHeartbeats 4000000
set_option synthInstance.maxHeartbeats 400000
set_option synthInstance.maxSize 10000
/-- A list of numbers rises. -/
def Rises (l : List Nat) : Prop := ∀ i, i + 1 < l.length → l.getD i 0 < l.getD (i + 1) 0
/-- What is of one class by the first list is so by the second. -/
def Finer (a b : List Nat) : Prop := a.length = b.length ∧ ∀ s t, s < a.length → t < s → a.getD s 0 = a.getD t 0 → b.getD s 0 = b.getD t 0
end Go.Proofs.Ytcmkkmlgdkhmiaa.Asl

/- Several texts in one. -/
/- The drawn laws' helpers on rows and on graphs. -/
namespace Go.Proofs.Ytcmkkmlgdkhmiaa.Asl
open Go.RowKit Go.Proofs.YtcmkkmlgdkhmiaaW.PrintLast
set_option linter.unusedVariables false
set_option linter.unusedSimpArgs false
attribute [local irreducible] WP WL andThen inBlock noGoto atEnd ACall DA DL PO Hold
set_option maxHeartbeats 4000000
set_option synthInstance.maxHeartbeats 400000
set_option synthInstance.maxSize 10000
end Go.Proofs.Ytcmkkmlgdkhmiaa.Asl

/- The drawn laws' helper on the first states of two graphs. -/
namespace Go.Proofs.Ytcmkkmlgdkhmiaa.Asl
open Go.RowKit Go.Proofs.YtcmkkmlgdkhmiaaW.PrintLast
set_option linter.unusedVariables false
set_option linter.unusedSimpArgs false
attribute [local irreducible] WP WL andThen inBlock noGoto atEnd ACall DA DL PO Hold
set_option maxHeartbeats 4000000
set_option synthInstance.maxHeartbeats 400000
set_option synthInstance.maxSize 10000
theorem optB_pos {α : Type} {p : Prop} {x : α} (h : p) : optB p x = some x := by
  unfold optB; rw [prB_true h]
theorem optB_neg {α : Type} {p : Prop} {x : α} (h : ¬ p) : optB p x = none := by
  unfold optB; rw [prB_false h]
theorem both_lim {a b : Gr} (ha : ∀ k, (a.getD k []).length < 4294967296) (hb : ∀ k, (b.getD k []).length < 4294967296) : ∀ k, ((bothL a b).getD k []).length < 4294967296 := by
  intro k
  rcases Nat.lt_or_ge k a.length with h | h
  · have := both_row_lt (b := b) h
    unfold rowOf at this
    rw [this]; exact ha k
  · have := both_row_ge a b (k - a.length)
    rw [show a.length + (k - a.length) = k by omega] at this
    unfold rowOf at this
    rw [this, List.length_map]; exact hb _
section
variable {base : Nat}
theorem c_mnFirstR (σ : Store) (s s' : AV) {ss ss' : List AV} {a b : Gr} [hs : RW σ s ss] [hg : RRs σ ss a] [hs' : RW σ s' ss'] [hg' : RRs σ ss' b] (ha : ∀ k, (a.getD k []).length < 4294967296) (hb : ∀ k, (b.getD k []).length < 4294967296)
    (h : GOk a → GOk b → a.length + b.length ≤ 60 → (lastC (bothL a b)).getD a.length 0 = 0) : ACall Try.prog base F_laws_mnFirst [.agg [s], .agg [s']] σ (fun _ => False) (Ret σ (Bo true)) := by
  have := hs.one
  have := hs'.one
  have hl1 := hg.len
  have hl2 := hg'.len
  by_cases hP : GOk a ∧ GOk b ∧ a.length + b.length ≤ 60
  · have e := optB_pos (x := bothL a b) hP
    have hG := both_ok hP.1 hP.2.1 hP.2.2
    have e2 : (optB (GOk (bothL a b)) (lastC (bothL a b))).getD [] = lastC (bothL a b) := by rw [optB_pos hG]; rfl
    have hC := lastC_len (bothL a b)
    have hz := h hP.1 hP.2.1 hP.2.2
    rw [both_len] at hC
    have hb1 := hP.2.1.pos
    have hlim := both_lim ha hb
    refine acall2 fun_laws_mnFirst rfl tmps_laws_mnFirst rfl fun N B w₀ ρ₀ => ?_
    repeat' (first
      | (refine wc_callGO rfl inferInstance rfl (e ▸ c_GraphBoth _ _ _ (a := a) (b := b)) rfl ?_; intro _ _ _ _ _ _ _)
      | refine wc_loadn rfl inferInstance (at_has (cs := [_]) (.inl rfl) rfl rfl) rfl ?_
      | refine wp_seqA ?_
      | refine wp_region_seq ?_
      | refine thru_seq_next ?_
      | refine wp_skipA ?_
      | refine wl_nil ?_
      | refine wl_pop rfl (po_move rfl) ?_
      | refine wl_pop rfl (po_assign rfl) ?_
      | refine wl_pop rfl (po_not rfl) ?_
      | (refine wc_storeA rfl rfl inferInstance inferInstance rfl inferInstance (Nat.le_of_ble_eq_true rfl) (.inr (may_new _)) ?_; intro _ _)
      | refine wl_pop rfl (po_extract rfl rfl) ?_
      | (refine wc_boxA rfl inferInstance rfl ?_; intro _ _ _ _ _)
      | (refine wc_allocA (cs := [_]) inferInstance rfl inferInstance rfl ?_; intro _ _ _ _ _)
      | refine wp_condF rfl ?_
      | fail)
    rename_i i1 σ1 g1 n1 h1 i2 σ2 g2 n2 h2 u us σ3 ou ow or3 g3 i4 σ4 g4 n4 h4 σ5 u5
    have or3' : RRs σ3 us (bothL a b) := or3.rrs
    have rr5 : RRs σ5 us (bothL a b) := inferInstance
    have rw5 : RW σ5 u us := inferInstance
    have h5 : Has σ5 i4 ⟨.own, 1, [u], []⟩ := instHasUpd (g := u5)
    have hk1 : a.length < (lastC (bothL a b)).length := by omega
    have hk2 := hs.bound
    refine wc_drawn [] mixed_ rfl ?_
    all_goals (first | refine da_takeC 0 rfl rfl (by kernel_rfl) (by first | exact pc_loadnL rfl inferInstance (at_has (cs := [_]) (.inl rfl) rfl rfl) inferInstance | fail) ?_ | (refine da_one 0 rfl (by kernel_rfl) (fun _ _ _ _ => ?_); (repeat' (first | fail)); all_goals (first | refine wl_nil ⟨rfl, (by first | exact LeS.len inferInstance | exact App.len (by assumption)), ?_⟩ | fail)))
    all_goals (first | refine da_takeC 2 rfl rfl (by kernel_rfl) (by first | exact po_fieldAddr rfl inferInstance | fail) ?_ | (refine da_one 2 rfl (by kernel_rfl) (fun _ _ _ _ => ?_); (repeat' (first | fail)); all_goals (first | refine wl_nil ⟨rfl, (by first | exact LeS.len inferInstance | exact App.len (by assumption)), ?_⟩ | fail)))
    all_goals (first | refine da_takeC 3 rfl rfl (by kernel_rfl) (by first | exact pc_load1L rfl inferInstance (at_has (.inl rfl) rfl rfl) inferInstance | fail) ?_ | (refine da_one 3 rfl (by kernel_rfl) (fun _ _ _ _ => ?_); (repeat' (first | fail)); all_goals (first | refine wl_nil ⟨rfl, (by first | exact LeS.len inferInstance | exact App.len (by assumption)), ?_⟩ | fail)))
    all_goals (first | refine da_takeC 4 rfl rfl (by kernel_rfl) (by first | exact pc_lenRow rfl inferInstance inferInstance | fail) ?_ | (refine da_one 4 rfl (by kernel_rfl) (fun _ _ _ _ => ?_); (repeat' (first | fail)); all_goals (first | refine wl_nil ⟨rfl, (by first | exact LeS.len inferInstance | exact App.len (by assumption)), ?_⟩ | fail)))
    all_goals (first | (refine da_one 1 rfl (by kernel_rfl) (fun _ _ _ _ => ?_); (repeat' (first | (refine wc_callOW rfl inferInstance rfl (e2 ▸ c_AlikeClasses _ _ hlim) rfl ?_; intro _ _ _ _ _) | fail)); all_goals (first | refine wl_nil ⟨rfl, (by first | exact LeS.len inferInstance | exact App.len (by assumption)), ?_⟩ | trace_state)))
    all_goals (first | refine da_takeC 5 rfl rfl (by kernel_rfl) (by first | fail) ?_ | (refine da_one 5 rfl (by kernel_rfl) (fun _ _ _ _ => ?_); (repeat' (first | refine wl_pop rfl (pc_indexRow rfl rfl inferInstance inferInstance inferInstance (by omega)) ?_ | fail)); all_goals (first | refine wl_nil ⟨rfl, (by first | exact LeS.len inferInstance | exact App.len (by assumption)), ?_⟩ | fail)))
    all_goals (first | refine da_takeC 6 rfl rfl (by kernel_rfl) (by first | fail) ?_ | (refine da_one 6 rfl (by kernel_rfl) (fun _ _ _ _ => ?_); (repeat' (first | refine wl_pop rfl (pc_ldNat rfl inferInstance inferInstance (by omega) inferInstance) ?_ | fail)); all_goals (first | refine wl_nil ⟨rfl, (by first | exact LeS.len inferInstance | exact App.len (by assumption)), ?_⟩ | fail)))
    all_goals (first | refine da_takeC 7 rfl rfl (by kernel_rfl) (by first | exact po_binOp rfl rfl rfl | fail) ?_ | (refine da_one 7 rfl (by kernel_rfl) (fun _ _ _ _ => ?_); (repeat' (first | fail)); all_goals (first | refine wl_nil ⟨rfl, (by first | exact LeS.len inferInstance | exact App.len (by assumption)), ?_⟩ | fail)))
    all_goals (first | refine da_takeC 8 rfl rfl (by kernel_rfl) (by first | exact po_assign rfl | fail) ?_ | (refine da_one 8 rfl (by kernel_rfl) (fun _ _ _ _ => ?_); (repeat' (first | fail)); all_goals (first | refine wl_nil ⟨rfl, (by first | exact LeS.len inferInstance | exact App.len (by assumption)), ?_⟩ | fail)))
    all_goals refine da_done (by kernel_rfl) ?_
    repeat' (first
      | refine thru_seq_next ?_
      | refine wp_retA ?_
      | refine at_ret (res1 rfl rfl) ?_
      | fail)
    exact ret_ inferInstance (congrArg Bo (by rw [hl1, hz]; rfl))
  · have e := optB_neg (x := bothL a b) hP
    refine acall2 fun_laws_mnFirst rfl tmps_laws_mnFirst rfl fun N B w₀ ρ₀ => ?_
    repeat' (first
      | (refine wc_callGO rfl inferInstance rfl (e ▸ c_GraphBoth _ _ _ (a := a) (b := b)) rfl ?_; intro _ _ _ _ _ _ _)
      | refine wc_loadn rfl inferInstance (at_has (cs := [_]) (.inl rfl) rfl rfl) rfl ?_
      | refine wp_seqA ?_
      | refine wp_region_seq ?_
      | refine thru_seq_next ?_
      | refine thru_seq_ret ?_
      | refine wp_retA ?_
      | refine wl_nil ?_
      | refine wl_pop rfl (po_move rfl) ?_
      | refine wl_pop rfl (po_assign rfl) ?_
      | refine wl_pop rfl (po_not rfl) ?_
      | (refine wc_storeA rfl rfl inferInstance inferInstance rfl inferInstance (Nat.le_of_ble_eq_true rfl) (.inr (may_new _)) ?_; intro _ _)
      | refine wl_pop rfl (po_extract rfl rfl) ?_
      | (refine wc_boxA rfl inferInstance rfl ?_; intro _ _ _ _ _)
      | (refine wc_allocA (cs := [_]) inferInstance rfl inferInstance rfl ?_; intro _ _ _ _ _)
      | refine wp_condT rfl ?_
      | refine at_ret (res1 rfl rfl) ?_
      | exact ret_ inferInstance rfl
      | fail)
end
end Go.Proofs.Ytcmkkmlgdkhmiaa.Asl
