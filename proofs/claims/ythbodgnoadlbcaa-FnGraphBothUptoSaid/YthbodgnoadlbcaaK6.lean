/- The reader: a graph, often of a term. -/
import Derived.Test.YthbodgnoadlbcaaK5
namespace Go.Proofs.Ythbodgnoadlbcaa.Asl
open Go.RowKit Go.Proofs.YthbodgnoadlbcaaW.PrintLast
set_option linter.unusedVariables false
set_option linter.unusedSimpArgs false
attribute [local irreducible] WP WL andThen inBlock noGoto atEnd ACall DA DL DX PO Hold nodeOk Tm.shape Tm.ok Tm.txt graphO
set_option maxHeartbeats 4000000
set_option synthInstance.maxHeartbeats 400000
set_option synthInstance.maxSize 10000
theorem growN_bnd {ds : List Tm} (hd : defsOk ds = true) : ∀ (n : Nat) (x : List Tm × Gr) (g : Gr), StOk ds x.1 → (∀ l ∈ x.2, l.length ≤ 331776) → growN ds n x = some g → ∀ l ∈ g, l.length ≤ 331776 := by
  intro n
  induction n with
  | zero => intro x g _ hx e; simp only [growN, Option.some.injEq] at e; subst e; exact hx
  | succ n ih =>
    intro x g hs hx e
    unfold growN at e
    split at e
    · rename_i hlt
      cases h1 : grow1 ds x with
      | none => rw [h1] at e; cases e
      | some y =>
        rw [h1] at e
        have e' : growN ds n y = some g := e
        unfold grow1 at h1
        cases h2 : lookL x.1 ((x.1.getD x.2.length nilT).steps ds) with
        | none => rw [h2] at h1; cases h1
        | some z =>
          rw [h2] at h1
          simp only [Option.map_some, Option.some.injEq] at h1
          subst h1
          have hu : x.1.getD x.2.length nilT ∈ x.1 := by simp [List.getD_eq_getElem?_getD, hlt]
          obtain ⟨a1, a2, a3⟩ := hs.ok _ hu
          obtain ⟨b1, b2, b3⟩ := lookL_ok (c := 576) hs (Tm.steps_ok hd a1 a2 a3) h2
          refine ih _ g b1 ?_ e'
          intro l hl
          rcases List.mem_append.mp hl with hl | hl
          · exact hx l hl
          · simp only [List.mem_singleton] at hl
            subst hl
            have := tidyL_lenK z.2
            have := Tm.steps_len hd a3
            omega
    · simp only [Option.some.injEq] at e; subst e; exact hx
theorem graphO_bnd {ds : List Tm} {t : Tm} : ∀ l ∈ (graphO ds t).getD [], l.length ≤ 331776 := by
  unfold graphO
  split
  · rename_i h
    simp only [Bool.and_eq_true] at h
    obtain ⟨a1, a2, a3⟩ := fits_get h.2
    cases e : graphL ds t with
    | none => simp
    | some g =>
      intro l hl
      exact growN_bnd h.1 61 ([t], []) g ⟨by simp only [List.mem_singleton, forall_eq]; exact ⟨a1, a2, a3⟩, by simp⟩ (by simp) e l (by simpa using hl)
  · simp
section
variable {base : Nat}
theorem c_l91Graph (i : Nat) (s : AV) (b : List UInt8) (p : Int) (σ : Store) [hi : Has σ i (RdO s p)] [hb : Bk σ i s b] (hp : 0 ≤ p) (hp2 : p ≤ 999800000) : ACall Try.prog base F_spec_l91Graph [.pt i 0] σ (fun j => j = i) (RetRd σ i s p 5000 (QG σ)) := by
  have := hb.rw.one
  have hi0 := hi.lt
  refine acall1 fun_spec_l91Graph rfl tmps_spec_l91Graph rfl fun N B w₀ ρ₀ => ?_
  repeat' (first
    | (refine wc_callP rfl inferInstance rfl (c_pick i s b _ _ _ (hb := hb.le inferInstance) (by omega) (by omega)) inferInstance (.inl rfl) rfl ?_; intro _ _ _ _ _ _ _ _ _ _)
    | (refine wc_callC rfl inferInstance rfl (c_l91Called i s b _ _ (hb := hb.le inferInstance) (by omega) (by omega)) inferInstance (.inl rfl) rfl ?_; intro _ _ _ _ _ _ _ _ _ _ _ _ _ _ _ _)
    | (refine wc_callQG rfl inferInstance rfl (c_l91Wild i s b _ _ (hb := hb.le inferInstance) (by omega) (by omega)) inferInstance (.inl rfl) rfl ?_; intro _ _ _ _ _ _ _ _ _ _ _ _ _)
    | (refine wc_storeA rfl rfl inferInstance inferInstance rfl inferInstance (Nat.le_of_ble_eq_true rfl) (.inr (may_newB i σ)) ?_; intro _ _)
    | refine wc_holdR 3 ?_
    | refine at_ret (res_cell rfl rfl inferInstance (at_has (cs := [_]) (.inl rfl) rfl rfl)) ?_
    | refine wp_seqA ?_
    | refine wp_region_seq ?_
    | refine thru_seq_next ?_
    | refine wp_skipA ?_
    | refine wp_retA ?_
    | refine wl_nil ?_
    | refine wl_pop rfl (po_move rfl) ?_
    | refine wl_pop rfl (po_assign rfl) ?_
    | refine wl_pop rfl (po_binOp rfl rfl rfl) ?_
    | refine wl_pop rfl (po_extract rfl rfl) ?_
    | (refine wc_allocA (cs := [_]) inferInstance rfl inferInstance rfl ?_; intro _ _ _ _ _)
    | (refine wc_allocA (cs := [_, _, _]) inferInstance rfl inferInstance rfl ?_; intro _ _ _ _ _)
    | refine wp_condP rfl (fun _ => ?_) (fun _ => ?_)
    | fail)
  · rename_i i1 σ1 g1 n1 h1 v1 p1 σ2 σ3 a1 a2 a3 a4 g3 u3 hv t u v xs p4 σ4 σ5 o1 o2 ru rv hx a5 a6 g5 u5 j σ6 g6 n6 h6 σ7 u7
    have hi3 : Has σ3 i _ := instHasUpd (g := u3)
    have y1 := (inferInstance : LeB i σ1 σ3).len
    have y2 := (inferInstance : LeB i σ σ5).len
    have y3 := (inferInstance : LeB i σ3 σ5).len
    have y4 := n6.le
    have y5 := h1.lt
    have y6 := n1.le
    have l57 : ∀ (x : Nat) (o : Ob), x < σ5.length → σ5[x]? = some o → σ7[x]? = some o := fun x o hx ho => by rw [u7.eq, List.getElem?_set_ne (by omega)]; exact g6.keep x o ho
    have RV : RTs σ7 v xs := rts_le (i := j) (rv.rep.lt.mono (fun x o hx ho => l57 x o hx.2 ho) (fun x hx => hx)) (fun x hx => by omega) inferInstance
    have RU : RTs σ7 u t.ps := rts_le (i := j) (ru.rep.lt.mono (fun x o hx ho => l57 x o hx.2 ho) (fun x hx => hx)) (fun x hx => by omega) inferInstance
    have hj7 : Has σ7 j ⟨.own, 1, [I t.op, I t.n, u], []⟩ := instHasUpd (g := u7)
    have hi7 : Has σ7 i (RdO s p4) := inferInstance
    have h17 : Has σ7 i1 ⟨.own, 1, [nilS], []⟩ := ⟨l57 _ _ (by omega) ((inferInstance : LeB i σ1 σ5).keep.keep _ _ (by omega) h1.get)⟩
    have hle7 : LeB i σ σ7 := inferInstance
    have l7 := hle7.len
    clear u7 h6 u5 u3 ru rv
    refine hold_go ?_
    repeat' (first
      | (refine wc_callGO rfl inferInstance rfl (c_sGraphOf t xs _ _ _) rfl ?_; intro _ _ _ _ _ _ _)
      | (refine wc_callQG rfl inferInstance rfl (c_l91Wild i s b _ _ (hb := hb.le inferInstance) (by omega) (by omega)) inferInstance (.inl rfl) rfl ?_; intro _ _ _ _ _ _ _ _ _ _ _ _ _)
      | (refine wc_storeA rfl rfl inferInstance inferInstance rfl inferInstance (Nat.le_of_ble_eq_true rfl) (.inr (may_newB i σ)) ?_; intro _ _)
      | refine wc_loadn rfl inferInstance (at_has (cs := [_]) (.inl rfl) rfl rfl) rfl ?_
      | refine at_ret (res_cell rfl rfl inferInstance (at_has (cs := [_]) (.inl rfl) rfl rfl)) ?_
      | refine wp_seqA ?_
      | refine wp_region_seq ?_
      | refine thru_seq_next ?_
      | refine thru_seq_ret ?_
      | refine wp_skipA ?_
      | refine wp_retA ?_
      | refine wl_nil ?_
      | refine wl_pop rfl (po_move rfl) ?_
      | refine wl_pop rfl (po_assign rfl) ?_
      | refine wc_loadn rfl inferInstance (at_has (cs := [_, _, _]) (.inl rfl) rfl rfl) rfl ?_
      | refine wl_pop rfl (po_extract rfl rfl) ?_
      | (refine wc_allocA (cs := [_]) inferInstance rfl inferInstance rfl ?_; intro _ _ _ _ _)
      | refine wp_condA rfl (fun _ => ?_) (fun _ => ?_)
      | fail)
    · rename_i w ws σ8 ow or8 ors8 g8 i9 σ9 g9 n9 h9 σ10 u10 hO σ11 u11
      have ng : NG σ7 σ8 w ws ((graphO xs t).getD []) := .of or8 ors8 (Nat.le_refl _)
      have ng11 : NG σ7 σ11 w ws ((graphO xs t).getD []) := by
        have z := n9.le
        have zz := g8.len
        refine ng.keep fun x o hx ho => ?_
        rw [u11.eq, List.getElem?_set_ne (by have := h17.lt; omega), u10.eq, List.getElem?_set_ne (by have := Has.lt ⟨ho⟩; omega)]
        exact g9.keep x o ho
      exact ⟨⟨p4, by omega, by omega, inferInstance⟩, inferInstance, w, ws, _, rfl, ng11.down l7, graphO_bnd⟩
    · rename_i w ws σ8 ow or8 ors8 g8 i9 σ9 g9 n9 h9 σ10 u10 hO u us g p5 σ11 σ12 o12 ng hg a7 a8 g12 u12 σ13 u13
      have hi1 : Has σ10 i1 ⟨.own, 1, [nilS], []⟩ := inferInstance
      have ng13 : NG σ10 σ13 u us g := inferInstance
      exact ⟨⟨p5, by omega, by omega, inferInstance⟩, inferInstance, u, us, g, rfl, ng13.down (inferInstance : LeB i σ σ10).len, hg⟩
  · rename_i i1 σ1 g1 n1 h1 v1 p1 σ2 σ3 a1 a2 a3 a4 g3 u3 hv u us g p4 σ4 σ5 o5 ng hg a5 a6 g5 u5 σ6 u6
    have hi1 : Has σ3 i1 ⟨.own, 1, [nilS], []⟩ := inferInstance
    have ng6 : NG σ3 σ6 u us g := inferInstance
    exact ⟨⟨p4, by omega, by omega, inferInstance⟩, inferInstance, u, us, g, rfl, ng6.down (inferInstance : LeB i σ σ3).len, hg⟩
/-- A graph that is drawn, alone. -/
def RetG1 (σ : Store) : AV → Store → Prop := fun r σ' => ∃ (u : AV) (us : List AV) (g : Gr), r = .agg [u] ∧ NG σ σ' u us g ∧ (∀ l ∈ g, l.length ≤ 331776) ∧ Grow σ σ'
end
end Go.Proofs.Ythbodgnoadlbcaa.Asl
