/- The drawn laws FnTermSteps and FnStepsBeside. -/
import Derived.Test.YtcmkkmlgdkhmiaaT29
namespace Go.Proofs.Ytcmkkmlgdkhmiaa.Asl
open Go.RowKit Go.Proofs.YtcmkkmlgdkhmiaaW.PrintLast
set_option linter.unusedVariables false
set_option linter.unusedSimpArgs false
attribute [local irreducible] WP WL andThen inBlock noGoto atEnd ACall DA DL PO Hold nodeOk Tm.shape Tm.ok Tm.askO
set_option maxHeartbeats 4000000
set_option synthInstance.maxHeartbeats 400000
set_option synthInstance.maxSize 10000
theorem Tm.askO_cases (t : Tm) (ds : List Tm) : t.askO ds = none ∨ (t.askO ds = some (t.steps ds) ∧ defsOk ds = true ∧ t.fits ds.length = true) := by
  unfold Tm.askO
  by_cases h : (defsOk ds && t.fits ds.length) = true
  · rw [if_pos h]; simp only [Bool.and_eq_true] at h; exact .inr ⟨rfl, h⟩
  · rw [if_neg h]; exact .inl rfl
theorem Tm.fits_two {t : Tm} {op : Int} {m : Int} (h5 : op ≠ 5) (hf : t.fits m = true) (h : (Tm.node op 0 [t, t]).ok = true) : (Tm.node op 0 [t, t]).fits m = true := by
  unfold Tm.fits at hf ⊢
  simp only [Bool.and_eq_true] at hf ⊢
  refine ⟨⟨h, hf.1.2⟩, ?_⟩
  simp [Tm.callLt, Tm.callLts, hf.2, h5]
theorem Tm.askO_sum {t : Tm} {ds : List Tm} (hd : defsOk ds = true) (hf : t.fits ds.length = true) (h : (Tm.node 2 0 [t, t]).ok = true) : (Tm.node 2 0 [t, t]).askO ds = some (t.steps ds ++ t.steps ds) := by
  unfold Tm.askO
  rw [if_pos (by simp [hd, Tm.fits_two (by decide) hf h])]
  simp [Tm.steps, Tm.st, stF, Tm.sts]
theorem Tm.askO_par {t : Tm} {ds : List Tm} (hd : defsOk ds = true) (hf : t.fits ds.length = true) (h : (Tm.node 3 0 [t, t]).ok = true) : (Tm.node 3 0 [t, t]).askO ds = some (parL t t (t.steps ds) (t.steps ds)) := by
  unfold Tm.askO
  rw [if_pos (by simp [hd, Tm.fits_two (by decide) hf h])]
  simp [Tm.steps, Tm.st, stF, Tm.sts]
theorem rts_two {σ : Store} {j : Nat} {t t' : Tm} {u u' : AV} (h : RTs σ u t.ps) (h' : RTs σ u' t'.ps) (hh : Has σ j ⟨.own, 3, [I t.op, I t.n, u, I t'.op, I t'.n, u'], []⟩) : RTs σ (.sl j 0 2) [t, t'] :=
  ⟨(rtsG_two (G := fun _ => True) trivial (.of h) (.of h') hh).rep⟩
instance instOWRow0 {σ₀ σ : Store} {i : Nat} [n : New σ₀ i] [h : Has σ i (Row ([] : List StC))] : OW σ₀ σ (.sl i 0 0) ([] : List StC) := ow_of_has h n.le rfl (by decide)
theorem sr_twice {G : Nat → Prop} {σ : Store} {xs : List StC} {L : List Stp} (h : SR G σ xs L) : SR G σ (([] ++ xs) ++ xs) (L ++ L) := by simpa using h.append h
section
variable {base : Nat}
theorem c_FnTermSteps (b : AV) (gb : List UInt8) (σ : Store) [hs : RW σ b gb] : ACall Try.prog base F_laws_FnTermSteps [b] σ (fun _ => False) (Ret σ (Bo true)) := by
  have := hs.one
  refine acall1 fun_laws_FnTermSteps rfl tmps_laws_FnTermSteps rfl fun N B w₀ ρ₀ => ?_
  repeat' (first
    | refine wl_pop rfl (pc_lenRow rfl hs inferInstance) ?_
    | (refine wc_callTDr rfl inferInstance rfl (c_DrawTermSteps b gb _ (by omega)) rfl ?_; intro _ _ _ _ _ _ _ _ _ _ _)
    | refine wc_holdR 4 ?_
    | refine wp_seqA ?_
    | refine wp_region_seq ?_
    | refine thru_seq_next ?_
    | refine thru_seq_ret ?_
    | refine wp_skipA ?_
    | refine wp_retA ?_
    | refine wl_nil ?_
    | refine wl_pop rfl (po_move rfl) ?_
    | refine wl_pop rfl (po_assign rfl) ?_
    | refine wl_pop rfl (po_binOp rfl rfl rfl) ?_
    | (refine wc_storeA rfl rfl inferInstance inferInstance rfl inferInstance (Nat.le_of_ble_eq_true rfl) (.inr (may_new _)) ?_; intro _ _)
    | refine wl_pop rfl (po_extract rfl rfl) ?_
    | (refine wc_allocA (cs := [_, _, _]) inferInstance rfl inferInstance rfl ?_; intro _ _ _ _ _)
    | refine wp_condP rfl (fun _ => ?_) (fun _ => ?_)
    | refine at_ret (res1 rfl rfl) ?_
    | exact ret_ inferInstance rfl
    | fail)
  rename_i hlen t u v ds σ1 ou ov ru rv hds g1 i2 σ2 g2 n2 h2 σ3 u3
  refine hold_go ?_
  have l3 : LeS σ σ3 := inferInstance
  rcases Tm.askO_cases t ds with ho | ⟨ho, hd1, hf1⟩
  · repeat' (first
      | (refine wc_callSO rfl inferInstance rfl (ho ▸ c_TermSteps t ds _ _ _) rfl ?_; intro _ _ _ _ _ _ _)
      | (refine wc_callSO rfl inferInstance rfl (ho ▸ c_sTermSteps t ds _ _ _) rfl ?_; intro _ _ _ _ _ _ _)
      | (refine wc_callR rfl inferInstance rfl (c_mnSteps _ _ _ _ _ _) rfl ?_; intro _ _)
      | (refine wc_twoTm rfl rfl inferInstance inferInstance rfl (by decide) rfl ?_; intro _ _ _ _ _)
      | (refine wc_callR rfl inferInstance rfl (c_mnPut _ _ _ _) rfl ?_; intro _ _)
      | refine wp_seqA ?_
      | refine wp_region_seq ?_
      | refine thru_seq_next ?_
      | refine thru_seq_ret ?_
      | refine wp_skipA ?_
      | refine wp_retA ?_
      | refine wl_nil ?_
      | refine wl_pop rfl (po_move rfl) ?_
      | refine wl_pop rfl (po_assign rfl) ?_
      | refine wl_pop rfl (pc_boolNeSelf rfl rfl inferInstance) ?_
      | refine wc_loadn rfl inferInstance (at_has (cs := [_, _, _]) (.inl rfl) rfl rfl) rfl ?_
      | refine wl_pop rfl (po_not rfl) ?_
      | (refine wc_storeA rfl rfl inferInstance inferInstance rfl inferInstance (Nat.le_of_ble_eq_true rfl) (.inr (may_new _)) ?_; intro _ _)
      | refine wl_pop rfl (po_extract rfl rfl) ?_
      | (refine wc_allocA (cs := [_, _, _]) inferInstance rfl inferInstance rfl ?_; intro _ _ _ _ _)
      | refine wl_pop rfl (po_pick rfl rfl) ?_
      | refine wc_guardT_false rfl rfl rfl ?_
      | refine wc_guardF_false rfl rfl rfl rfl ?_
      | refine wp_condT rfl ?_
      | refine wp_condF rfl ?_
      | refine at_ret (res1 rfl rfl) ?_
      | exact ret_ inferInstance rfl
      | fail)
  · have ho2 : (Tm.node 2 0 [t, t]).ok = true → _ := Tm.askO_sum hd1 hf1
    have hlen := Tm.steps_len hd1 (fits_get hf1).2.2
    have hl2 : (Tm.node 2 0 [t, t]).ok = true → ((Tm.node 2 0 [t, t]).steps ds).length ≤ 331776 := fun h => Tm.steps_len hd1 (fits_get (Tm.fits_two (by decide) hf1 h)).2.2
    have he2 : (Tm.node 2 0 [t, t]).steps ds = t.steps ds ++ t.steps ds := by simp [Tm.steps, Tm.st, stF, Tm.sts]
    rw [he2] at hl2
    have hrng : ∀ x ∈ t.steps ds, -4 ≤ x.1 ∧ x.1 ≤ 4 := fun x hx => (Tm.steps_ok hd1 (fits_get hf1).1 (fits_get hf1).2.1 (fits_get hf1).2.2 x hx).1
    generalize t.steps ds = L at *
    repeat' (first
      | (refine wc_callSO rfl inferInstance rfl (ho ▸ c_TermSteps t ds _ _ _) rfl ?_; intro _ _ _ _ _ _ _)
      | (refine wc_callSO rfl inferInstance rfl (ho ▸ c_sTermSteps t ds _ _ _) rfl ?_; intro _ _ _ _ _ _ _)
      | (refine wc_callR rfl inferInstance rfl (c_mnSteps _ _ _ _ _ _) rfl ?_; intro _ _)
      | (refine wc_twoTm rfl rfl inferInstance inferInstance rfl (by decide) rfl ?_; intro _ _ _ _ _)
      | (refine wc_callR rfl inferInstance rfl (c_mnPut _ _ _ _) rfl ?_; intro _ _)
      | refine wc_holdR 9 ?_
      | refine wp_seqA ?_
      | refine wp_region_seq ?_
      | refine thru_seq_next ?_
      | refine wp_skipA ?_
      | refine wl_nil ?_
      | refine wl_pop rfl (po_move rfl) ?_
      | refine wl_pop rfl (po_assign rfl) ?_
      | refine wl_pop rfl (pc_boolNeSelf rfl rfl inferInstance) ?_
      | refine wc_loadn rfl inferInstance (at_has (cs := [_, _, _]) (.inl rfl) rfl rfl) rfl ?_
      | refine wl_pop rfl (po_not rfl) ?_
      | (refine wc_storeA rfl rfl inferInstance inferInstance rfl inferInstance (Nat.le_of_ble_eq_true rfl) (.inr (may_new _)) ?_; intro _ _)
      | refine wl_pop rfl (po_extract rfl rfl) ?_
      | (refine wc_allocA (cs := [_, _, _]) inferInstance rfl inferInstance rfl ?_; intro _ _ _ _ _)
      | refine wl_pop rfl (po_pick rfl rfl) ?_
      | refine wc_guardT_false rfl rfl rfl ?_
      | refine wp_condF rfl ?_
      | fail)
    rename_i u1 xs1 σ4 o4 ow4 sr4 g4 u2' xs2 σ5 o5 ow5 sr5 g5 σ6 g6 i7 σ7 g7 n7 h7 σ8 g8 i9 σ9 g9 n9 h9 σ10 u10
    refine hold_go ?_
    have rt7 : RTs σ7 (.sl i7 0 2) [t, t] := rts_two inferInstance inferInstance h7
    have h10 : Has σ10 i9 ⟨.own, 1, [I 2, I 0, .sl i7 0 2], []⟩ := instHasUpd (g := u10)
    have hx1 : xs1.length = L.length := sr4.len
    by_cases hok : (Tm.node 2 0 [t, t]).ok = true
    · have ho3 := ho2 hok
      have hl3 := hl2 hok
      repeat' (first
        | (refine wc_callR rfl inferInstance rfl (hok ▸ c_TermOk (.node 2 0 [t, t]) _ _) rfl ?_; intro _ _)
        | (refine wc_callSO rfl inferInstance rfl (ho3 ▸ c_TermSteps (.node 2 0 [t, t]) ds _ _ _) rfl ?_; intro _ _ _ _ _ _ _)
        | refine wc_holdR 12 ?_
        | refine wp_seqA ?_
        | refine wp_region_seq ?_
        | refine thru_seq_next ?_
        | refine wp_skipA ?_
        | refine wl_nil ?_
        | refine wl_pop rfl (po_move rfl) ?_
        | refine wl_pop rfl (po_assign rfl) ?_
        | refine wc_loadn rfl inferInstance (at_has (cs := [_, _, _]) (.inl rfl) rfl rfl) rfl ?_
        | refine wl_pop rfl (po_not rfl) ?_
        | refine wl_pop rfl (po_extract rfl rfl) ?_
        | refine wl_pop rfl (po_pick rfl rfl) ?_
        | refine wc_guardT_false rfl rfl rfl ?_
        | refine wp_condF rfl ?_
        | fail)
      rename_i σ11 g11 u3 xs3 σ12 o12 ow12 sr12 g12
      refine hold_go ?_
      repeat' (first
        | (refine wc_row0 (α := StC) inferInstance inferInstance rfl rfl (by decide) rfl ?_; intro _ _ _ _ _)
        | (refine wc_appendRows (σ₀ := σ12) rfl rfl inferInstance inferInstance rfl (by decide) inferInstance inferInstance (by simp only [List.length_append, List.length_nil]; omega) (by decide) (may_ge σ12) (LeS.len inferInstance) rfl ?_; intro _ _ _ _ _ _ _)
        | (refine wc_callR rfl inferInstance rfl (c_mnSteps (G := fun _ => True) (L ++ L) _ _ _ _ _ (hs' := sr_twice inferInstance)) rfl ?_; intro _ _)
        | refine wp_region_seq ?_
        | refine thru_seq_next ?_
        | refine wp_retA ?_
        | refine wl_nil ?_
        | refine wl_pop rfl (po_move rfl) ?_
        | refine wl_pop rfl (po_assign rfl) ?_
        | refine wl_pop rfl (po_pick rfl rfl) ?_
        | refine wc_guardT_true rfl rfl rfl ?_
        | refine at_ret (res1 rfl rfl) ?_
        | exact ret_ inferInstance rfl
        | fail)
    · have hok' : (Tm.node 2 0 [t, t]).ok = false := by simpa using hok
      repeat' (first
        | (refine wc_callR rfl inferInstance rfl (hok' ▸ c_TermOk (.node 2 0 [t, t]) _ _) rfl ?_; intro _ _)
        | refine wp_seqA ?_
        | refine wp_region_seq ?_
        | refine thru_seq_next ?_
        | refine thru_seq_ret ?_
        | refine wp_retA ?_
        | refine wl_nil ?_
        | refine wl_pop rfl (po_move rfl) ?_
        | refine wl_pop rfl (po_assign rfl) ?_
        | refine wc_loadn rfl inferInstance (at_has (cs := [_, _, _]) (.inl rfl) rfl rfl) rfl ?_
        | refine wl_pop rfl (po_not rfl) ?_
        | refine wl_pop rfl (po_pick rfl rfl) ?_
        | refine wc_guardT_false rfl rfl rfl ?_
        | refine wp_condT rfl ?_
        | refine at_ret (res1 rfl rfl) ?_
        | exact ret_ inferInstance rfl
        | fail)
theorem c_FnStepsBeside (b : AV) (gb : List UInt8) (σ : Store) [hs : RW σ b gb] : ACall Try.prog base F_laws_FnStepsBeside [b] σ (fun _ => False) (Ret σ (Bo true)) := by
  have := hs.one
  refine acall1 fun_laws_FnStepsBeside rfl tmps_laws_FnStepsBeside rfl fun N B w₀ ρ₀ => ?_
  repeat' (first
    | refine wl_pop rfl (pc_lenRow rfl hs inferInstance) ?_
    | (refine wc_callTDr rfl inferInstance rfl (c_DrawTermSteps b gb _ (by omega)) rfl ?_; intro _ _ _ _ _ _ _ _ _ _ _)
    | refine wc_holdR 4 ?_
    | refine wp_seqA ?_
    | refine wp_region_seq ?_
    | refine thru_seq_next ?_
    | refine thru_seq_ret ?_
    | refine wp_skipA ?_
    | refine wp_retA ?_
    | refine wl_nil ?_
    | refine wl_pop rfl (po_move rfl) ?_
    | refine wl_pop rfl (po_assign rfl) ?_
    | refine wl_pop rfl (po_binOp rfl rfl rfl) ?_
    | (refine wc_storeA rfl rfl inferInstance inferInstance rfl inferInstance (Nat.le_of_ble_eq_true rfl) (.inr (may_new _)) ?_; intro _ _)
    | refine wl_pop rfl (po_extract rfl rfl) ?_
    | (refine wc_allocA (cs := [_, _, _]) inferInstance rfl inferInstance rfl ?_; intro _ _ _ _ _)
    | refine wp_condP rfl (fun _ => ?_) (fun _ => ?_)
    | refine at_ret (res1 rfl rfl) ?_
    | exact ret_ inferInstance rfl
    | fail)
  rename_i hlen t u v ds σ1 ou ov ru rv hds g1 i2 σ2 g2 n2 h2 σ3 u3
  refine hold_go ?_
  have l3 : LeS σ σ3 := inferInstance
  rcases Tm.askO_cases t ds with ho | ⟨ho, hd1, hf1⟩
  · repeat' (first
      | (refine wc_callSO rfl inferInstance rfl (ho ▸ c_TermSteps t ds _ _ _) rfl ?_; intro _ _ _ _ _ _ _)
      | (refine wc_callSO rfl inferInstance rfl (ho ▸ c_sTermSteps t ds _ _ _) rfl ?_; intro _ _ _ _ _ _ _)
      | (refine wc_callR rfl inferInstance rfl (c_mnSteps _ _ _ _ _ _) rfl ?_; intro _ _)
      | (refine wc_twoTm rfl rfl inferInstance inferInstance rfl (by decide) rfl ?_; intro _ _ _ _ _)
      | (refine wc_callR rfl inferInstance rfl (c_mnPut _ _ _ _) rfl ?_; intro _ _)
      | refine wp_seqA ?_
      | refine wp_region_seq ?_
      | refine thru_seq_next ?_
      | refine thru_seq_ret ?_
      | refine wp_skipA ?_
      | refine wp_retA ?_
      | refine wl_nil ?_
      | refine wl_pop rfl (po_move rfl) ?_
      | refine wl_pop rfl (po_assign rfl) ?_
      | refine wl_pop rfl (pc_boolNeSelf rfl rfl inferInstance) ?_
      | refine wc_loadn rfl inferInstance (at_has (cs := [_, _, _]) (.inl rfl) rfl rfl) rfl ?_
      | refine wl_pop rfl (po_not rfl) ?_
      | (refine wc_storeA rfl rfl inferInstance inferInstance rfl inferInstance (Nat.le_of_ble_eq_true rfl) (.inr (may_new _)) ?_; intro _ _)
      | refine wl_pop rfl (po_extract rfl rfl) ?_
      | (refine wc_allocA (cs := [_, _, _]) inferInstance rfl inferInstance rfl ?_; intro _ _ _ _ _)
      | refine wl_pop rfl (po_pick rfl rfl) ?_
      | refine wc_guardT_false rfl rfl rfl ?_
      | refine wc_guardF_false rfl rfl rfl rfl ?_
      | refine wp_condT rfl ?_
      | refine wp_condF rfl ?_
      | refine at_ret (res1 rfl rfl) ?_
      | exact ret_ inferInstance rfl
      | fail)
  · have ho2 : (Tm.node 3 0 [t, t]).ok = true → _ := Tm.askO_par hd1 hf1
    have hlen := Tm.steps_len hd1 (fits_get hf1).2.2
    have hl2 : (Tm.node 3 0 [t, t]).ok = true → ((Tm.node 3 0 [t, t]).steps ds).length ≤ 331776 := fun h => Tm.steps_len hd1 (fits_get (Tm.fits_two (by decide) hf1 h)).2.2
    have he2 : (Tm.node 3 0 [t, t]).steps ds = parL t t (t.steps ds) (t.steps ds) := by simp [Tm.steps, Tm.st, stF, Tm.sts]
    rw [he2] at hl2
    have hrng : ∀ x ∈ t.steps ds, -4 ≤ x.1 ∧ x.1 ≤ 4 := fun x hx => (Tm.steps_ok hd1 (fits_get hf1).1 (fits_get hf1).2.1 (fits_get hf1).2.2 x hx).1
    generalize t.steps ds = L at *
    repeat' (first
      | (refine wc_callSO rfl inferInstance rfl (ho ▸ c_TermSteps t ds _ _ _) rfl ?_; intro _ _ _ _ _ _ _)
      | (refine wc_callSO rfl inferInstance rfl (ho ▸ c_sTermSteps t ds _ _ _) rfl ?_; intro _ _ _ _ _ _ _)
      | (refine wc_callR rfl inferInstance rfl (c_mnSteps _ _ _ _ _ _) rfl ?_; intro _ _)
      | (refine wc_twoTm rfl rfl inferInstance inferInstance rfl (by decide) rfl ?_; intro _ _ _ _ _)
      | (refine wc_callR rfl inferInstance rfl (c_mnPut _ _ _ _) rfl ?_; intro _ _)
      | refine wc_holdR 9 ?_
      | refine wp_seqA ?_
      | refine wp_region_seq ?_
      | refine thru_seq_next ?_
      | refine wp_skipA ?_
      | refine wl_nil ?_
      | refine wl_pop rfl (po_move rfl) ?_
      | refine wl_pop rfl (po_assign rfl) ?_
      | refine wl_pop rfl (pc_boolNeSelf rfl rfl inferInstance) ?_
      | refine wc_loadn rfl inferInstance (at_has (cs := [_, _, _]) (.inl rfl) rfl rfl) rfl ?_
      | refine wl_pop rfl (po_not rfl) ?_
      | (refine wc_storeA rfl rfl inferInstance inferInstance rfl inferInstance (Nat.le_of_ble_eq_true rfl) (.inr (may_new _)) ?_; intro _ _)
      | refine wl_pop rfl (po_extract rfl rfl) ?_
      | (refine wc_allocA (cs := [_, _, _]) inferInstance rfl inferInstance rfl ?_; intro _ _ _ _ _)
      | refine wl_pop rfl (po_pick rfl rfl) ?_
      | refine wc_guardT_false rfl rfl rfl ?_
      | refine wp_condF rfl ?_
      | fail)
    rename_i u1 xs1 σ4 o4 ow4 sr4 g4 u2' xs2 σ5 o5 ow5 sr5 g5 σ6 g6 i7 σ7 g7 n7 h7 σ8 g8 i9 σ9 g9 n9 h9 σ10 u10
    refine hold_go ?_
    have rt7 : RTs σ7 (.sl i7 0 2) [t, t] := rts_two inferInstance inferInstance h7
    have h10 : Has σ10 i9 ⟨.own, 1, [I 3, I 0, .sl i7 0 2], []⟩ := instHasUpd (g := u10)
    have hx1 : xs1.length = L.length := sr4.len
    by_cases hok : (Tm.node 3 0 [t, t]).ok = true
    · have ho3 := ho2 hok
      have hl3 := hl2 hok
      repeat' (first
        | (refine wc_callR rfl inferInstance rfl (hok ▸ c_TermOk (.node 3 0 [t, t]) _ _) rfl ?_; intro _ _)
        | (refine wc_callSO rfl inferInstance rfl (ho3 ▸ c_TermSteps (.node 3 0 [t, t]) ds _ _ _) rfl ?_; intro _ _ _ _ _ _ _)
        | refine wc_holdR 12 ?_
        | refine wp_seqA ?_
        | refine wp_region_seq ?_
        | refine thru_seq_next ?_
        | refine wp_skipA ?_
        | refine wl_nil ?_
        | refine wl_pop rfl (po_move rfl) ?_
        | refine wl_pop rfl (po_assign rfl) ?_
        | refine wc_loadn rfl inferInstance (at_has (cs := [_, _, _]) (.inl rfl) rfl rfl) rfl ?_
        | refine wl_pop rfl (po_not rfl) ?_
        | refine wl_pop rfl (po_extract rfl rfl) ?_
        | refine wl_pop rfl (po_pick rfl rfl) ?_
        | refine wc_guardT_false rfl rfl rfl ?_
        | refine wp_condF rfl ?_
        | fail)
      rename_i σ11 g11 u3 xs3 σ12 o12 ow12 sr12 g12
      refine hold_go ?_
      have hx3 : xs3.length = (parL t t L L).length := sr12.len
      have hpl : (parL t t L L).length = L.length + L.length + (meetsL L L).length := by simp [parL]; omega
      have hx1' : (xs1.length : Int) = L.length := by rw [hx1]
      have hmm := meets_take_le (A := L) (B := L)
      repeat' (first
        | refine wl_pop rfl (pc_mul rfl rfl (by omega) (by omega)) ?_
        | refine wl_pop rfl (pc_lenRow rfl inferInstance inferInstance) ?_
        | refine wp_seqA ?_
        | refine wp_region_seq ?_
        | refine thru_seq_next ?_
        | refine wp_blockA ?_
        | refine wl_nil ?_
        | refine wl_pop rfl (po_move rfl) ?_
        | refine wl_pop rfl (po_assign rfl) ?_
        | fail)
      refine wc_loop [(5, _), (10, _), (11, _)] (fun k : Nat => [(12, I (2 * (L.length : Int) + ((meetsL (L.take k) L).length : Int))), (13, I k)]) (fun k σ' => k ≤ L.length ∧ LeS σ12 σ') (fun k => L.length - k) 0 ⟨Nat.zero_le _, inferInstance⟩ (sub_int rfl (by rw [hx1]; simp [meetsL]) (sub_int rfl (by simp) (sub_cons rfl (sub_cons rfl (sub_cons rfl sub_nil))))) ?_
      rintro k σ' ⟨hk, hg⟩
      have := hg.grow
      repeat' (first
        | refine wl_pop rfl (pc_lenRow rfl inferInstance inferInstance) ?_
        | refine wp_seqA ?_
        | refine wp_region_seq ?_
        | refine thru_seq_next ?_
        | refine thru_seq ?_
        | refine exit_here ?_
        | refine wp_skipA ?_
        | refine wp_retA ?_
        | refine wp_exitA ?_
        | refine wp_blockA ?_
        | refine wl_nil ?_
        | refine wl_pop rfl (po_move rfl) ?_
        | refine wl_pop rfl (po_assign rfl) ?_
        | refine wl_pop rfl (po_binOp rfl rfl rfl) ?_
        | refine wl_pop rfl (po_pick rfl rfl) ?_
        | refine wc_guardT_true rfl rfl rfl ?_
        | refine wp_condP rfl (fun _ => ?_) (fun _ => ?_)
        | refine at_ret (res1 rfl rfl) ?_
        | fail)
      rotate_left
      · obtain rfl : k = L.length := by omega
        rw [List.take_length]
        have e : ((xs3.length : Int) == 2 * (L.length : Int) + ((meetsL L L).length : Int)) = true := by simp; omega
        repeat' (first
          | fail)
        rw [e]
        exact ret_ inferInstance rfl
      have hk' : k < L.length := by omega
      have hmk := hmm k
      have hmk1 := hmm (k + 1)
      rw [meets_take hk', List.length_append] at hmk1
      have sr4' : SRD σ3 σ4 xs1 L := sr4
      obtain ⟨e1, e2, e3, rk⟩ := sr4'.sr.at hk'
      have hrk := hrng (L.getD k (0, nilT)) (by simp [List.getD_eq_getElem?_getD, hk'])
      refine wc_loop [(5, _), (10, _), (11, _), (13, _)] (fun j : Nat => [(12, I (2 * (L.length : Int) + ((meetsL (L.take k) L).length : Int) + ((meetsL [L.getD k (0, nilT)] (L.take j)).length : Int))), (14, I j)]) (fun j σ' => j ≤ L.length ∧ LeS σ12 σ') (fun j => L.length - j) 0 ⟨Nat.zero_le _, inferInstance⟩ (sub_int rfl (by simp [meetsL]) (sub_int rfl (by simp) (sub_cons rfl (sub_cons rfl (sub_cons rfl (sub_cons rfl sub_nil)))))) ?_
      rintro j σ' ⟨hj, hg⟩
      have := hg.grow
      have hml := meets1_take_le (x := L.getD k (0, nilT)) (B := L) j
      repeat' (first
        | refine wl_pop rfl (pc_lenRow rfl inferInstance inferInstance) ?_
        | refine wp_seqA ?_
        | refine wp_region_seq ?_
        | refine thru_seq_next ?_
        | refine thru_seq ?_
        | refine thru_block_next ?_
        | refine exit_here ?_
        | refine wp_skipA ?_
        | refine wp_exitA ?_
        | refine wp_blockA ?_
        | refine wl_nil ?_
        | refine wl_pop rfl (po_move rfl) ?_
        | refine wl_pop rfl (po_assign rfl) ?_
        | refine wl_pop rfl (pc_add rfl rfl (by omega) (by omega)) ?_
        | refine wl_pop rfl (po_binOp rfl rfl rfl) ?_
        | refine wp_condP rfl (fun _ => ?_) (fun _ => ?_)
        | fail)
      rotate_left
      · obtain rfl : j = L.length := by omega
        rw [List.take_length]
        refine ⟨k + 1, by omega, ⟨by omega, inferInstance⟩, sub_int rfl (by rw [meets_take hk', List.length_append]; push_cast; omega) (sub_int rfl (by simp) (sub_cons rfl (sub_cons rfl (sub_cons rfl sub_nil))))⟩
      have hj' : j < L.length := by omega
      have hmt := congrArg List.length (meets1_take (x := L.getD k (0, nilT)) hj')
      rw [List.length_append] at hmt
      obtain ⟨f1, f2, f3, rj⟩ := sr4'.sr.at hj'
      have hrj := hrng (L.getD j (0, nilT)) (by simp [List.getD_eq_getElem?_getD, hj'])
      refine wc_drawn [] mixed_ rfl ?_
      all_goals refine da_takeC 0 rfl rfl (by kernel_rfl) (by first | exact po_move rfl | fail) ?_
      all_goals refine da_takeC 1 rfl rfl (by kernel_rfl) (by first | exact po_move rfl | fail) ?_
      all_goals refine da_takeC 2 rfl rfl (by kernel_rfl) (by first | exact pc_indexRow rfl rfl inferInstance inferInstance inferInstance (by omega) | fail) ?_
      all_goals refine da_takeC 3 rfl rfl (by kernel_rfl) (by first | exact po_fieldAddr rfl inferInstance | fail) ?_
      all_goals refine da_takeC 4 rfl rfl (by kernel_rfl) (by first | exact pc_ldStA rfl inferInstance inferInstance (by omega) inferInstance | fail) ?_
      all_goals refine da_takeC 5 rfl rfl (by kernel_rfl) (by first | exact po_binOp rfl rfl rfl | fail) ?_
      all_goals refine da_takeC 6 rfl rfl (by kernel_rfl) (by first | exact po_move rfl | fail) ?_
      all_goals (first | refine da_onC 7 rfl rfl rfl rfl rfl (by kernel_rfl) (by first | exact po_move rfl | fail) ?_ | refine da_offC 7 rfl rfl rfl rfl rfl rfl (by kernel_rfl) ?_ | refine da_offU 7 rfl rfl rfl rfl rfl (by kernel_rfl) ?_ | ((first | refine da_caseP (t := 82) rfl (fun _ => ?_) (fun _ => ?_) | refine da_caseNP (t := 82) rfl (fun _ => ?_) (fun _ => ?_) | refine da_caseEq (t := 82) rfl (fun _ => ?_) (fun _ => ?_) | refine da_caseNe (t := 82) rfl (fun _ => ?_) (fun _ => ?_) | refine da_caseNB (t := 82) rfl (fun _ => ?_) (fun _ => ?_) | refine da_case (t := 82) rfl (fun _ => ?_) (fun _ => ?_)) <;> (first | refine da_onC 7 rfl rfl rfl rfl rfl (by kernel_rfl) (by first | exact po_move rfl | fail) ?_ | refine da_offC 7 rfl rfl rfl rfl rfl rfl (by kernel_rfl) ?_ | refine da_offU 7 rfl rfl rfl rfl rfl (by kernel_rfl) ?_)))
      all_goals (first | refine da_onC 8 rfl rfl rfl rfl rfl (by kernel_rfl) (by first | exact po_move rfl | fail) ?_ | refine da_offC 8 rfl rfl rfl rfl rfl rfl (by kernel_rfl) ?_ | refine da_offU 8 rfl rfl rfl rfl rfl (by kernel_rfl) ?_ | ((first | refine da_caseP (t := 82) rfl (fun _ => ?_) (fun _ => ?_) | refine da_caseNP (t := 82) rfl (fun _ => ?_) (fun _ => ?_) | refine da_caseEq (t := 82) rfl (fun _ => ?_) (fun _ => ?_) | refine da_caseNe (t := 82) rfl (fun _ => ?_) (fun _ => ?_) | refine da_caseNB (t := 82) rfl (fun _ => ?_) (fun _ => ?_) | refine da_case (t := 82) rfl (fun _ => ?_) (fun _ => ?_)) <;> (first | refine da_onC 8 rfl rfl rfl rfl rfl (by kernel_rfl) (by first | exact po_move rfl | fail) ?_ | refine da_offC 8 rfl rfl rfl rfl rfl rfl (by kernel_rfl) ?_ | refine da_offU 8 rfl rfl rfl rfl rfl (by kernel_rfl) ?_)))
      all_goals (first | refine da_onC 9 rfl rfl rfl rfl rfl (by kernel_rfl) (by first | exact pc_indexRow rfl rfl inferInstance inferInstance inferInstance (by omega) | fail) ?_ | refine da_offC 9 rfl rfl rfl rfl rfl rfl (by kernel_rfl) ?_ | refine da_offU 9 rfl rfl rfl rfl rfl (by kernel_rfl) ?_ | ((first | refine da_caseP (t := 82) rfl (fun _ => ?_) (fun _ => ?_) | refine da_caseNP (t := 82) rfl (fun _ => ?_) (fun _ => ?_) | refine da_caseEq (t := 82) rfl (fun _ => ?_) (fun _ => ?_) | refine da_caseNe (t := 82) rfl (fun _ => ?_) (fun _ => ?_) | refine da_caseNB (t := 82) rfl (fun _ => ?_) (fun _ => ?_) | refine da_case (t := 82) rfl (fun _ => ?_) (fun _ => ?_)) <;> (first | refine da_onC 9 rfl rfl rfl rfl rfl (by kernel_rfl) (by first | exact pc_indexRow rfl rfl inferInstance inferInstance inferInstance (by omega) | fail) ?_ | refine da_offC 9 rfl rfl rfl rfl rfl rfl (by kernel_rfl) ?_ | refine da_offU 9 rfl rfl rfl rfl rfl (by kernel_rfl) ?_)))
      all_goals (first | refine da_onC 10 rfl rfl rfl rfl rfl (by kernel_rfl) (by first | exact po_fieldAddr rfl inferInstance | fail) ?_ | refine da_offC 10 rfl rfl rfl rfl rfl rfl (by kernel_rfl) ?_ | refine da_offU 10 rfl rfl rfl rfl rfl (by kernel_rfl) ?_ | ((first | refine da_caseP (t := 82) rfl (fun _ => ?_) (fun _ => ?_) | refine da_caseNP (t := 82) rfl (fun _ => ?_) (fun _ => ?_) | refine da_caseEq (t := 82) rfl (fun _ => ?_) (fun _ => ?_) | refine da_caseNe (t := 82) rfl (fun _ => ?_) (fun _ => ?_) | refine da_caseNB (t := 82) rfl (fun _ => ?_) (fun _ => ?_) | refine da_case (t := 82) rfl (fun _ => ?_) (fun _ => ?_)) <;> (first | refine da_onC 10 rfl rfl rfl rfl rfl (by kernel_rfl) (by first | exact po_fieldAddr rfl inferInstance | fail) ?_ | refine da_offC 10 rfl rfl rfl rfl rfl rfl (by kernel_rfl) ?_ | refine da_offU 10 rfl rfl rfl rfl rfl (by kernel_rfl) ?_)))
      all_goals (first | refine da_onC 11 rfl rfl rfl rfl rfl (by kernel_rfl) (by first | exact pc_ldStA rfl inferInstance inferInstance (by omega) inferInstance | fail) ?_ | refine da_offC 11 rfl rfl rfl rfl rfl rfl (by kernel_rfl) ?_ | refine da_offU 11 rfl rfl rfl rfl rfl (by kernel_rfl) ?_ | ((first | refine da_caseP (t := 82) rfl (fun _ => ?_) (fun _ => ?_) | refine da_caseNP (t := 82) rfl (fun _ => ?_) (fun _ => ?_) | refine da_caseEq (t := 82) rfl (fun _ => ?_) (fun _ => ?_) | refine da_caseNe (t := 82) rfl (fun _ => ?_) (fun _ => ?_) | refine da_caseNB (t := 82) rfl (fun _ => ?_) (fun _ => ?_) | refine da_case (t := 82) rfl (fun _ => ?_) (fun _ => ?_)) <;> (first | refine da_onC 11 rfl rfl rfl rfl rfl (by kernel_rfl) (by first | exact pc_ldStA rfl inferInstance inferInstance (by omega) inferInstance | fail) ?_ | refine da_offC 11 rfl rfl rfl rfl rfl rfl (by kernel_rfl) ?_ | refine da_offU 11 rfl rfl rfl rfl rfl (by kernel_rfl) ?_)))
      all_goals (first | refine da_onC 12 rfl rfl rfl rfl rfl (by kernel_rfl) (by first | exact po_move rfl | fail) ?_ | refine da_offC 12 rfl rfl rfl rfl rfl rfl (by kernel_rfl) ?_ | refine da_offU 12 rfl rfl rfl rfl rfl (by kernel_rfl) ?_ | ((first | refine da_caseP (t := 82) rfl (fun _ => ?_) (fun _ => ?_) | refine da_caseNP (t := 82) rfl (fun _ => ?_) (fun _ => ?_) | refine da_caseEq (t := 82) rfl (fun _ => ?_) (fun _ => ?_) | refine da_caseNe (t := 82) rfl (fun _ => ?_) (fun _ => ?_) | refine da_caseNB (t := 82) rfl (fun _ => ?_) (fun _ => ?_) | refine da_case (t := 82) rfl (fun _ => ?_) (fun _ => ?_)) <;> (first | refine da_onC 12 rfl rfl rfl rfl rfl (by kernel_rfl) (by first | exact po_move rfl | fail) ?_ | refine da_offC 12 rfl rfl rfl rfl rfl rfl (by kernel_rfl) ?_ | refine da_offU 12 rfl rfl rfl rfl rfl (by kernel_rfl) ?_)))
      all_goals (first | refine da_onC 13 rfl rfl rfl rfl rfl (by kernel_rfl) (by first | exact po_move rfl | fail) ?_ | refine da_offC 13 rfl rfl rfl rfl rfl rfl (by kernel_rfl) ?_ | refine da_offU 13 rfl rfl rfl rfl rfl (by kernel_rfl) ?_ | ((first | refine da_caseP (t := 82) rfl (fun _ => ?_) (fun _ => ?_) | refine da_caseNP (t := 82) rfl (fun _ => ?_) (fun _ => ?_) | refine da_caseEq (t := 82) rfl (fun _ => ?_) (fun _ => ?_) | refine da_caseNe (t := 82) rfl (fun _ => ?_) (fun _ => ?_) | refine da_caseNB (t := 82) rfl (fun _ => ?_) (fun _ => ?_) | refine da_case (t := 82) rfl (fun _ => ?_) (fun _ => ?_)) <;> (first | refine da_onC 13 rfl rfl rfl rfl rfl (by kernel_rfl) (by first | exact po_move rfl | fail) ?_ | refine da_offC 13 rfl rfl rfl rfl rfl rfl (by kernel_rfl) ?_ | refine da_offU 13 rfl rfl rfl rfl rfl (by kernel_rfl) ?_)))
      all_goals (first | refine da_onC 14 rfl rfl rfl rfl rfl (by kernel_rfl) (by first | exact pc_indexRow rfl rfl inferInstance inferInstance inferInstance (by omega) | fail) ?_ | refine da_offC 14 rfl rfl rfl rfl rfl rfl (by kernel_rfl) ?_ | refine da_offU 14 rfl rfl rfl rfl rfl (by kernel_rfl) ?_ | ((first | refine da_caseP (t := 82) rfl (fun _ => ?_) (fun _ => ?_) | refine da_caseNP (t := 82) rfl (fun _ => ?_) (fun _ => ?_) | refine da_caseEq (t := 82) rfl (fun _ => ?_) (fun _ => ?_) | refine da_caseNe (t := 82) rfl (fun _ => ?_) (fun _ => ?_) | refine da_caseNB (t := 82) rfl (fun _ => ?_) (fun _ => ?_) | refine da_case (t := 82) rfl (fun _ => ?_) (fun _ => ?_)) <;> (first | refine da_onC 14 rfl rfl rfl rfl rfl (by kernel_rfl) (by first | exact pc_indexRow rfl rfl inferInstance inferInstance inferInstance (by omega) | fail) ?_ | refine da_offC 14 rfl rfl rfl rfl rfl rfl (by kernel_rfl) ?_ | refine da_offU 14 rfl rfl rfl rfl rfl (by kernel_rfl) ?_)))
      all_goals (first | refine da_onC 15 rfl rfl rfl rfl rfl (by kernel_rfl) (by first | exact po_fieldAddr rfl inferInstance | fail) ?_ | refine da_offC 15 rfl rfl rfl rfl rfl rfl (by kernel_rfl) ?_ | refine da_offU 15 rfl rfl rfl rfl rfl (by kernel_rfl) ?_ | ((first | refine da_caseP (t := 82) rfl (fun _ => ?_) (fun _ => ?_) | refine da_caseNP (t := 82) rfl (fun _ => ?_) (fun _ => ?_) | refine da_caseEq (t := 82) rfl (fun _ => ?_) (fun _ => ?_) | refine da_caseNe (t := 82) rfl (fun _ => ?_) (fun _ => ?_) | refine da_caseNB (t := 82) rfl (fun _ => ?_) (fun _ => ?_) | refine da_case (t := 82) rfl (fun _ => ?_) (fun _ => ?_)) <;> (first | refine da_onC 15 rfl rfl rfl rfl rfl (by kernel_rfl) (by first | exact po_fieldAddr rfl inferInstance | fail) ?_ | refine da_offC 15 rfl rfl rfl rfl rfl rfl (by kernel_rfl) ?_ | refine da_offU 15 rfl rfl rfl rfl rfl (by kernel_rfl) ?_)))
      all_goals (first | refine da_onC 16 rfl rfl rfl rfl rfl (by kernel_rfl) (by first | exact pc_ldStA rfl inferInstance inferInstance (by omega) inferInstance | fail) ?_ | refine da_offC 16 rfl rfl rfl rfl rfl rfl (by kernel_rfl) ?_ | refine da_offU 16 rfl rfl rfl rfl rfl (by kernel_rfl) ?_ | ((first | refine da_caseP (t := 82) rfl (fun _ => ?_) (fun _ => ?_) | refine da_caseNP (t := 82) rfl (fun _ => ?_) (fun _ => ?_) | refine da_caseEq (t := 82) rfl (fun _ => ?_) (fun _ => ?_) | refine da_caseNe (t := 82) rfl (fun _ => ?_) (fun _ => ?_) | refine da_caseNB (t := 82) rfl (fun _ => ?_) (fun _ => ?_) | refine da_case (t := 82) rfl (fun _ => ?_) (fun _ => ?_)) <;> (first | refine da_onC 16 rfl rfl rfl rfl rfl (by kernel_rfl) (by first | exact pc_ldStA rfl inferInstance inferInstance (by omega) inferInstance | fail) ?_ | refine da_offC 16 rfl rfl rfl rfl rfl rfl (by kernel_rfl) ?_ | refine da_offU 16 rfl rfl rfl rfl rfl (by kernel_rfl) ?_)))
      all_goals (first | refine da_onC 17 rfl rfl rfl rfl rfl (by kernel_rfl) (by first | exact pc_neg rfl (by omega) (by omega) | fail) ?_ | refine da_offC 17 rfl rfl rfl rfl rfl rfl (by kernel_rfl) ?_ | refine da_offU 17 rfl rfl rfl rfl rfl (by kernel_rfl) ?_ | ((first | refine da_caseP (t := 82) rfl (fun _ => ?_) (fun _ => ?_) | refine da_caseNP (t := 82) rfl (fun _ => ?_) (fun _ => ?_) | refine da_caseEq (t := 82) rfl (fun _ => ?_) (fun _ => ?_) | refine da_caseNe (t := 82) rfl (fun _ => ?_) (fun _ => ?_) | refine da_caseNB (t := 82) rfl (fun _ => ?_) (fun _ => ?_) | refine da_case (t := 82) rfl (fun _ => ?_) (fun _ => ?_)) <;> (first | refine da_onC 17 rfl rfl rfl rfl rfl (by kernel_rfl) (by first | exact pc_neg rfl (by omega) (by omega) | fail) ?_ | refine da_offC 17 rfl rfl rfl rfl rfl rfl (by kernel_rfl) ?_ | refine da_offU 17 rfl rfl rfl rfl rfl (by kernel_rfl) ?_)))
      all_goals (first | refine da_onC 18 rfl rfl rfl rfl rfl (by kernel_rfl) (by first | exact po_binOp rfl rfl rfl | fail) ?_ | refine da_offC 18 rfl rfl rfl rfl rfl rfl (by kernel_rfl) ?_ | refine da_offU 18 rfl rfl rfl rfl rfl (by kernel_rfl) ?_ | ((first | refine da_caseP (t := 82) rfl (fun _ => ?_) (fun _ => ?_) | refine da_caseNP (t := 82) rfl (fun _ => ?_) (fun _ => ?_) | refine da_caseEq (t := 82) rfl (fun _ => ?_) (fun _ => ?_) | refine da_caseNe (t := 82) rfl (fun _ => ?_) (fun _ => ?_) | refine da_caseNB (t := 82) rfl (fun _ => ?_) (fun _ => ?_) | refine da_case (t := 82) rfl (fun _ => ?_) (fun _ => ?_)) <;> (first | refine da_onC 18 rfl rfl rfl rfl rfl (by kernel_rfl) (by first | exact po_binOp rfl rfl rfl | fail) ?_ | refine da_offC 18 rfl rfl rfl rfl rfl rfl (by kernel_rfl) ?_ | refine da_offU 18 rfl rfl rfl rfl rfl (by kernel_rfl) ?_)))
      all_goals refine da_takeC 19 rfl rfl (by kernel_rfl) (by first | exact po_pick rfl rfl | fail) ?_
      all_goals refine da_done (by kernel_rfl) ?_
      repeat' (first
        | refine wp_region_seq ?_
        | refine thru_seq_next ?_
        | refine thru_block_next ?_
        | refine wp_skipA ?_
        | refine wl_nil ?_
        | refine wl_pop rfl (po_move rfl) ?_
        | refine wl_pop rfl (po_assign rfl) ?_
        | refine wl_pop rfl (pc_add rfl rfl (by omega) (by omega)) ?_
        | refine wp_condF rfl ?_
        | refine wp_condP rfl (fun _ => ?_) (fun _ => ?_)
        | fail)
      · rw [if_pos (by omega)] at hmt
        refine ⟨j + 1, by omega, ⟨by omega, inferInstance⟩, sub_int rfl (by rw [hmt]; simp only [List.length_cons, List.length_nil]; push_cast; omega) (sub_int rfl (by simp) (sub_cons rfl (sub_cons rfl (sub_cons rfl (sub_cons rfl sub_nil)))))⟩
      all_goals
        rw [if_neg (by omega)] at hmt
        refine ⟨j + 1, by omega, ⟨by omega, inferInstance⟩, sub_int rfl (by rw [hmt]; simp) (sub_int rfl (by simp) (sub_cons rfl (sub_cons rfl (sub_cons rfl (sub_cons rfl sub_nil)))))⟩
    · have hok' : (Tm.node 3 0 [t, t]).ok = false := by simpa using hok
      repeat' (first
        | (refine wc_callR rfl inferInstance rfl (hok' ▸ c_TermOk (.node 3 0 [t, t]) _ _) rfl ?_; intro _ _)
        | refine wp_seqA ?_
        | refine wp_region_seq ?_
        | refine thru_seq_next ?_
        | refine thru_seq_ret ?_
        | refine wp_retA ?_
        | refine wl_nil ?_
        | refine wl_pop rfl (po_move rfl) ?_
        | refine wl_pop rfl (po_assign rfl) ?_
        | refine wc_loadn rfl inferInstance (at_has (cs := [_, _, _]) (.inl rfl) rfl rfl) rfl ?_
        | refine wl_pop rfl (po_not rfl) ?_
        | refine wl_pop rfl (po_pick rfl rfl) ?_
        | refine wc_guardT_false rfl rfl rfl ?_
        | refine wp_condT rfl ?_
        | refine at_ret (res1 rfl rfl) ?_
        | exact ret_ inferInstance rfl
        | fail)
end
end Go.Proofs.Ytcmkkmlgdkhmiaa.Asl
