/- Reading a term: the judge's whole answer. -/
import Derived.Test.YthbodgnoadlbcaaDoorK20
import Derived.Test.YthbodgnoadlbcaaDoorTT
namespace Go.Proofs.YthbodgnoadlbcaaDoor.Asl
open Go.RowKit Go.Proofs.YthbodgnoadlbcaaDoorW.PrintLast
set_option linter.unusedVariables false
set_option linter.unusedSimpArgs false
attribute [local irreducible] WP WL andThen inBlock noGoto atEnd ACall DA DL DX PO Hold nodeOk readL readO Tm.ok
set_option maxHeartbeats 4000000
set_option synthInstance.maxHeartbeats 400000
set_option synthInstance.maxSize 10000
section
variable {base : Nat}
theorem readO_of {s : List UInt8} {o : Option (Tm × List UInt8)} (h : readL 24 s = o) : readO s = (o.filter fun x => x.2.isEmpty && x.1.ok).map Prod.fst := by unfold readO; rw [h]
theorem filt_yes {t : Tm} {q : List UInt8} (hq : q = []) (h : t.ok = true) : ((some (t, q)).filter fun x : Tm × List UInt8 => x.2.isEmpty && x.1.ok).map Prod.fst = some t := by subst hq; simp [h]
theorem filt_no {t : Tm} {q : List UInt8} (h : ¬ q = [] ∨ t.ok = false) : ((some (t, q)).filter fun x : Tm × List UInt8 => x.2.isEmpty && x.1.ok).map Prod.fst = none := by
  rcases h with h | h <;> simp [h]
theorem c_sTermRead (s : List UInt8) (hs : s.length ≤ 4000000) (σ : Store) : ACall Tryd.prog base F_spec_TermRead [Str (ofL s)] σ (fun _ => False) (RetTO σ (readO s)) := by
  obtain ⟨o, ho⟩ : ∃ o, readL 24 s = o := ⟨_, rfl⟩
  have hrd := readO_of ho
  have hT := fun σ => c_l2Read (base := base) 24 s 1 σ hs (by decide) (by decide)
  rw [ho] at hT
  refine acall1 fun_spec_TermRead rfl tmps_spec_TermRead rfl fun N B w₀ ρ₀ => ?_
  repeat' (first
    | (refine wc_callRO rfl inferInstance rfl (hT _) rfl ?_; intro _ _ _ _ _)
    | (refine wc_storeA rfl rfl inferInstance inferInstance rfl inferInstance (Nat.le_of_ble_eq_true rfl) (.inr (may_new _)) ?_; intro _ _)
    | refine wc_holdR 2 ?_
    | refine wp_seqA ?_
    | refine wp_region_seq ?_
    | refine thru_seq_next ?_
    | refine wl_nil ?_
    | refine wl_pop rfl (po_move rfl) ?_
    | refine wl_pop rfl (po_assign rfl) ?_
    | refine wl_pop rfl (po_extract rfl rfl) ?_
    | (refine wc_allocA (cs := [_, _, _]) inferInstance rfl inferInstance rfl ?_; intro _ _ _ _ _)
    | fail)
  rename_i i1 σ1 g1 n1 h1 u σ2 ou ru g2 i3 σ3 g3 n3 h3 σ4 u4
  have y3 := n3.le
  have rr : RTsD σ1 σ4 u (tmR o).ps := ⟨ru.rep.lt.mono (fun x o' hx ho' => by rw [u4.eq, List.getElem?_set_ne (by omega)]; exact g3.keep x o' ho') (fun x hx => hx.1)⟩
  have h4 : Has σ4 i3 ⟨.own, 1, [I (tmR o).op, I (tmR o).n, u], []⟩ := instHasUpd (g := u4)
  have k4 : Has σ4 i1 ⟨.own, 1, [I 0, I 0, nilS], []⟩ := (inferInstance : Has σ4 i1 ⟨.own, 1, [I 0, I 0, nilS], []⟩)
  have l14 : LeS σ1 σ4 := inferInstance
  have l4 : LeS σ σ4 := inferInstance
  have n13 : New σ1 i3 := ⟨by have := g2.len; omega⟩
  clear u4 h3 g3 ru n3
  refine hold_go ?_
  cases o with
  | none =>
    repeat' (first
      | refine wl_pop rfl (pc_build0 (cs := [I 0, I 0, nilS]) inferInstance inferInstance rfl) ?_
      | (refine wc_storeA rfl rfl inferInstance inferInstance rfl inferInstance (Nat.le_of_ble_eq_true rfl) (.inr (may_new _)) ?_; intro _ _)
      | refine wp_seqA ?_
      | refine wp_region_seq ?_
      | refine thru_seq_next ?_
      | refine thru_seq_ret ?_
      | refine wp_retA ?_
      | refine wl_nil ?_
      | refine wl_pop rfl (po_move rfl) ?_
      | refine wl_pop rfl (po_assign rfl) ?_
      | refine wl_pop rfl (po_not rfl) ?_
      | refine wl_pop rfl (po_pick rfl rfl) ?_
      | refine wc_guardF_false rfl rfl rfl rfl ?_
      | refine wp_condT rfl ?_
      | refine at_ret (res_cell2 rfl rfl inferInstance (at_has (cs := [_, _, _]) (.inl rfl) rfl rfl) rfl) ?_
      | fail)
    all_goals exact ret_to_none (by rw [hrd]; rfl) inferInstance
  | some y =>
    obtain ⟨t, q⟩ := y
    repeat' (first
      | refine wl_pop rfl (pc_build0 (cs := [I 0, I 0, nilS]) inferInstance inferInstance rfl) ?_
      | refine wl_pop rfl (pc_lNe (b := []) rfl rfl) ?_
      | (refine wc_storeA rfl rfl inferInstance inferInstance rfl inferInstance (Nat.le_of_ble_eq_true rfl) (.inr (may_new _)) ?_; intro _ _)
      | (refine wc_callR rfl inferInstance rfl (c_sTermOk (tmR (some (t, q))) _ _) rfl ?_; intro _ _)
      | refine wp_seqA ?_
      | refine wp_region_seq ?_
      | refine thru_seq_next ?_
      | refine thru_seq_ret ?_
      | refine wp_skipA ?_
      | refine wp_retA ?_
      | refine wl_nil ?_
      | refine wl_pop rfl (po_move rfl) ?_
      | refine wl_pop rfl (po_assign rfl) ?_
      | refine wc_loadn rfl inferInstance (at_has (cs := [_, _, _]) (.inl rfl) rfl rfl) rfl ?_
      | refine wl_pop rfl (po_not rfl) ?_
      | refine wl_pop rfl (po_pick rfl rfl) ?_
      | refine wc_guardT_false rfl rfl rfl ?_
      | refine wc_guardF_false rfl rfl rfl rfl ?_
      | refine wc_guardNP_false rfl rfl rfl rfl (fun _ => ?_) (fun _ => ?_)
      | refine wp_condT rfl ?_
      | refine wp_condA rfl (fun _ => ?_) (fun _ => ?_)
      | refine at_ret (res_cell2 rfl rfl inferInstance (at_has (cs := [_, _, _]) (.inl rfl) rfl rfl) rfl) ?_
      | fail)
    · rename_i hq σ5 g5 hok σ6 u6
      exact ret_to_none (by rw [hrd]; exact filt_no (.inr (by have h : (!t.ok) = true := hok; simpa using h))) inferInstance
    · rename_i hq σ5 g5 hok σ6 u6
      exact ret_to (σ₁ := σ1) (t := t) (by rw [hrd]; exact filt_yes hq (by have h : (!t.ok) = false := hok; simpa using h)) (inferInstance : RTsD σ1 σ6 u (tmR (some (t, q))).ps) inferInstance inferInstance
    · rename_i hq σ6 u6
      exact ret_to_none (by rw [hrd]; exact filt_no (.inl hq)) inferInstance
end
end Go.Proofs.YthbodgnoadlbcaaDoor.Asl
