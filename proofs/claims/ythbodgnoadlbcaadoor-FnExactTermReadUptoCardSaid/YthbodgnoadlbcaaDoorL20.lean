/- The laws on texts: FnExactTermText and the drawn law FnTermText. -/
import Derived.Test.YthbodgnoadlbcaaDoorK9
import Derived.Test.YthbodgnoadlbcaaDoorTU
import Derived.Test.YthbodgnoadlbcaaDoorDD
import Derived.Test.YthbodgnoadlbcaaDoorTT
namespace Go.Proofs.YthbodgnoadlbcaaDoor.Asl
open Go.RowKit Go.Proofs.YthbodgnoadlbcaaDoorW.PrintLast
set_option linter.unusedVariables false
set_option linter.unusedSimpArgs false
attribute [local irreducible] WP WL andThen inBlock noGoto atEnd ACall DA DL PO Hold nodeOk Tm.shape Tm.ok Tm.txt Tm.text
set_option maxHeartbeats 4000000
set_option synthInstance.maxHeartbeats 400000
set_option synthInstance.maxSize 10000
theorem ok_get {t : Tm} (h : t.ok = true) : t.shape = true ∧ t.cnt ≤ 24 := by
  unfold Tm.ok at h
  simp only [Bool.and_eq_true, decide_eq_true_eq] at h
  exact ⟨h.2, h.1⟩
theorem text_ok {t : Tm} (h : t.ok = true) : t.text = t.txt := by unfold Tm.text; rw [if_pos h]
theorem text_no {t : Tm} (h : t.ok = false) : t.text = [] := by unfold Tm.text; rw [if_neg (by simp [h])]
section
variable {base : Nat}
theorem c_TermText (t : Tm) (σ : Store) (s : AV) [hs : RTs σ s t.ps] : ACall Tryd.prog base F_impl_TermText [.agg [I t.op, I t.n, s]] σ (fun _ => False) (Ret σ (Str (ofL t.text))) := by
  have := hs.one
  refine acall1 fun_impl_TermText rfl tmps_impl_TermText rfl fun N B w₀ ρ₀ => ?_
  by_cases h : t.ok = true
  · have hg := ok_get h
    repeat' (first
      | (refine wc_callR rfl inferInstance rfl (h ▸ c_TermOk t _ _) rfl ?_; intro _ _)
      | (refine wc_callR rfl inferInstance rfl (c_textOf t hg.1 (by omega) _ _ inferInstance) rfl ?_; intro _ _)
      | refine wp_seqA ?_
      | refine wp_region_seq ?_
      | refine thru_seq_next ?_
      | refine wp_skipA ?_
      | refine wp_retA ?_
      | refine wl_nil ?_
      | refine wl_pop rfl (po_assign rfl) ?_
      | refine wc_loadn rfl inferInstance (at_has (cs := [_, _, _]) (.inl rfl) rfl rfl) rfl ?_
      | refine wl_pop rfl (po_not rfl) ?_
      | (refine wc_boxA rfl inferInstance rfl ?_; intro _ _ _ _ _)
      | refine wp_condF rfl ?_
      | refine at_ret (res1 rfl rfl) ?_
      | fail)
    all_goals first | contradiction | exact ret_ inferInstance (by rw [text_ok h])
  · have h' : t.ok = false := by simpa using h
    repeat' (first
      | (refine wc_callR rfl inferInstance rfl (h' ▸ c_TermOk t _ _) rfl ?_; intro _ _)
      | refine wp_seqA ?_
      | refine wp_region_seq ?_
      | refine thru_seq_next ?_
      | refine thru_seq_ret ?_
      | refine wp_retA ?_
      | refine wl_nil ?_
      | refine wl_pop rfl (po_assign rfl) ?_
      | refine wc_loadn rfl inferInstance (at_has (cs := [_, _, _]) (.inl rfl) rfl rfl) rfl ?_
      | refine wl_pop rfl (po_not rfl) ?_
      | (refine wc_boxA rfl inferInstance rfl ?_; intro _ _ _ _ _)
      | refine wp_condT rfl ?_
      | refine at_ret (res1 rfl rfl) ?_
      | fail)
    all_goals first | contradiction | exact ret_ inferInstance (by rw [text_no h'])
/-- A term is drawn. -/
def RetT1 (σ : Store) : AV → Store → Prop := fun r σ' => ∃ (t : Tm) (u : AV), r = .agg [I t.op, I t.n, u] ∧ RTs σ' u t.ps ∧ Grow σ σ'
end
end Go.Proofs.YthbodgnoadlbcaaDoor.Asl
