/- The reader: a state of a graph; what GraphPart is asked. -/
import Derived.Test.YtpkgcdpebomalaaK6
namespace Go.Proofs.Ytpkgcdpebomalaa.Asl
open Go.RowKit Go.Proofs.YtpkgcdpebomalaaW.PrintLast
set_option linter.unusedVariables false
set_option linter.unusedSimpArgs false
attribute [local irreducible] WP WL andThen inBlock noGoto atEnd ACall DA DL DX PO Hold nodeOk Tm.shape Tm.ok Tm.txt graphO
set_option maxHeartbeats 4000000
set_option synthInstance.maxHeartbeats 400000
set_option synthInstance.maxSize 10000
section
variable {base : Nat}
theorem c_l91State (i : Nat) (s : AV) (b : List UInt8) (p : Int) (σ : Store) (v : AV) {us : List AV} [hi : Has σ i (RdO s p)] [hb : Bk σ i s b] (hv : ∀ σ', LeB i σ σ' → RW σ' v us) (hp : 0 ≤ p) (hp2 : p ≤ 999800000) : ACall Try.prog base F_spec_l91State [.pt i 0, .agg [v]] σ (fun j => j = i) (RetRd σ i s p 2 (QP (-2) 4294967296)) := by
  have := hb.rw.one
  have hi0 := hi.lt
  have hv0 := hv σ inferInstance
  have := hv0.one
  have hvb := hv0.bound
  refine acall2 fun_spec_l91State rfl tmps_spec_l91State rfl fun N B w₀ ρ₀ => ?_
  repeat' (first
    | (refine wc_callP rfl inferInstance rfl (c_pick i s b _ _ _ (hb := hb.le inferInstance) (by omega) (by omega)) inferInstance (.inl rfl) rfl ?_; intro _ _ _ _ _ _ _ _ _ _)
    | refine wl_pop rfl (pc_lenRow rfl (hv _ inferInstance) inferInstance) ?_
    | refine wp_seqA ?_
    | refine wp_region_seq ?_
    | refine thru_seq_next ?_
    | refine thru_seq_ret ?_
    | refine wp_skipA ?_
    | refine wp_retA ?_
    | refine wl_nil ?_
    | refine wl_pop rfl (po_move rfl) ?_
    | refine wl_pop rfl (po_assign rfl) ?_
    | refine wl_pop rfl (pc_sub rfl rfl (by omega) (by omega)) ?_
    | refine wl_pop rfl (po_binOp rfl rfl rfl) ?_
    | refine wl_pop rfl (po_fieldAddr rfl inferInstance) ?_
    | refine wc_load1 rfl inferInstance (at_has (.inl rfl) rfl rfl) rfl ?_
    | (refine wc_boxA rfl inferInstance rfl ?_; intro _ _ _ _ _)
    | refine wl_pop rfl (po_pick rfl rfl) ?_
    | refine wc_guardT_false rfl rfl rfl ?_
    | refine wc_guardF_false rfl rfl rfl rfl ?_
    | refine wc_guardP_false rfl rfl rfl rfl (fun _ => ?_) (fun _ => ?_)
    | refine wp_condT rfl ?_
    | refine wp_condP rfl (fun _ => ?_) (fun _ => ?_)
    | refine at_ret (res1 rfl rfl) ?_
    | fail)
  all_goals (rename_i v2 p2 σa σb q1 q2 q3 q4 q5 q6; exact ⟨⟨p2, by omega, by omega, inferInstance⟩, inferInstance, _, rfl, by omega, by omega⟩)
/-- A graph and a number that are drawn. -/
def RetG2 (σ : Store) : AV → Store → Prop := fun r σ' => ∃ (u : AV) (us : List AV) (g : Gr) (z : Int), r = .tup [.agg [u], I z] ∧ NG σ σ' u us g ∧ (∀ l ∈ g, l.length ≤ 331776) ∧ Grow σ σ'
theorem wc_callG2 {E : Env} {ops : Array Oper} {l : List Oper} {Q : Exit → Slots → Store → Prop} {S : Slots} {σ : Store} {d : Option Tmp} {ty : TypeId} {pos : String} {af : Array Edge} {x : Operand} {args : Array Operand} {ats : Array TypeId} {f : FuncId} {rs caps : List AV} (hf : S.ev x = some (.fn f caps)) (hc : Callable E.P f) (hargs : evs S args.toList = some rs)
    (h : ACall E.P E.base f (rs ++ caps) σ (fun _ => False) (RetG2 σ)) (hd : okd E d = true) (k : ∀ (u : AV) (us : List AV) (g : Gr) (z : Int) σ', One u → NG σ σ' u us g → (∀ l ∈ g, l.length ≤ 331776) → Grow σ σ' → WL E ops l Q (S.put d (.tup [.agg [u], I z])) σ') :
    WL E ops (⟨d, .call ⟨.value x, args, ats⟩, ty, pos, af, none⟩ :: l) Q S σ :=
  wc_call hf hc hargs h hd fun r' σ' h => by obtain ⟨u, us, g, z, e, h1, h2, h4⟩ := h; subst e; exact k u us g z σ' (instNGRW (h := h1)).one h1 h2 h4
theorem c_DrawGraphPart (b : AV) (gb : List UInt8) (σ : Store) [hs : RW σ b gb] (hg : gb.length ≤ 1048576) : ACall Try.prog base F_spec_DrawGraphPart [b] σ (fun _ => False) (RetG2 σ) := by
  have := hs.one
  refine acall1 fun_spec_DrawGraphPart rfl tmps_spec_DrawGraphPart rfl fun N B w₀ ρ₀ => ?_
  repeat' (first
    | (refine wc_callOpen rfl inferInstance rfl (c_l6Open b gb _ hg) rfl ?_; intro _ _ _ _ _ _ _ _)
    | refine wc_holdR 2 ?_
    | refine wp_seqA ?_
    | refine wp_region_seq ?_
    | refine thru_seq_next ?_
    | refine wl_nil ?_
    | refine wl_pop rfl (po_move rfl) ?_
    | refine wl_pop rfl (po_assign rfl) ?_
    | (refine wc_allocA (cs := [_]) inferInstance rfl inferInstance rfl ?_; intro _ _ _ _ _)
    | fail)
  rename_i i1 σ1 g1 n1 h1 i s g σ2 g2 n2 h2 b2
  have hni : σ.length ≤ i := Nat.le_trans g1.len n2.le
  have y0 := h1.lt
  have y1 := n2.le
  have y2 := h2.lt
  have y3 := g2.len
  refine hold_go ?_
  repeat' (first
    | (refine wc_callQG rfl inferInstance rfl (c_l91Graph i s g _ _ (by omega) (by omega)) inferInstance (.inr hni) rfl ?_; intro _ _ _ _ _ _ _ _ _ _ _ _ _)
    | (refine wc_storeA rfl rfl inferInstance inferInstance rfl inferInstance (Nat.le_of_ble_eq_true rfl) (.inr (may_newB i σ)) ?_; intro _ _)
    | refine wc_holdR 3 ?_
    | refine wp_seqA ?_
    | refine wp_region_seq ?_
    | refine thru_seq_next ?_
    | refine wl_nil ?_
    | refine wl_pop rfl (po_move rfl) ?_
    | (refine wc_allocA (cs := [_]) inferInstance rfl inferInstance rfl ?_; intro _ _ _ _ _)
    | fail)
  rename_i u us gr p' σ3 σ4 ou ng hgb a1 a2 g4 u4 i5 σ5 g5 n5 h5 σ6 u6
  have y4 := n5.le
  have y5 := n1.le
  have hl : LeB i σ σ6 := inferInstance
  have hl2 := (inferInstance : LeB i σ2 σ4).len
  have ng6 : NG σ2 σ6 u us gr := ng.keep fun x o hx ho => by
    have := Has.lt ⟨ho⟩
    rw [u6.eq, List.getElem?_set_ne (by omega)]; exact g5.keep x o ho
  have h56 : Has σ6 i5 ⟨.own, 1, [u], []⟩ := instHasUpd (g := u6)
  have hi6 : Has σ6 i (RdO s p') := inferInstance
  have h16 : Has σ6 i1 ⟨.own, 1, [nilS], []⟩ := (inferInstance : Has σ6 i1 _)
  have b6 : Bk σ6 i s g := b2.le inferInstance
  have hle6 := (inferInstance : LeB i σ2 σ6).len
  refine hold_go ?_
  repeat' (first
    | (refine wc_callP rfl inferInstance rfl (c_l91State i s g _ _ u (us := us) (fun σ' l => (ng6.keep (fun x o hx ho => l.keep.keep x o (by omega) ho) : NG σ2 σ' u us gr).to σ' (fun _ _ _ h => h) |>.1) (by omega) (by omega)) inferInstance (.inr hni) rfl ?_; intro _ _ _ _ _ _ _ _ _ _)
    | (refine wc_storeA rfl rfl inferInstance inferInstance rfl inferInstance (Nat.le_of_ble_eq_true rfl) (.inr (may_newB i σ)) ?_; intro _ _)
    | refine wc_loadn rfl inferInstance (at_has (cs := [_]) (.inl rfl) rfl rfl) rfl ?_
    | refine at_ret (res_cell2 rfl rfl inferInstance (at_has (cs := [_]) (.inl rfl) rfl rfl) rfl) ?_
    | refine wp_seqA ?_
    | refine wp_region_seq ?_
    | refine thru_seq_next ?_
    | refine wp_retA ?_
    | refine wl_nil ?_
    | refine wl_pop rfl (po_move rfl) ?_
    | refine wl_pop rfl (po_assign rfl) ?_
    | fail)
  rename_i z p7 σ7 σ8 q1 q2 q3 q4 g8 u8 σ9 u9
  have le8 : LeB i σ6 σ8 := inferInstance
  have hl8 : LeB i σ σ8 := inferInstance
  have ng9 : NG σ2 σ9 u us gr := ng6.keep fun x o hx ho => by
    rw [u9.eq, List.getElem?_set_ne (by omega)]; exact le8.keep.keep x o (by omega) ho
  refine ⟨u, us, gr, z, rfl, ng9.down (by have := g1.len; omega), hgb, ⟨fun x o ho => ?_⟩⟩
  have hx1 : x < σ.length := Has.lt ⟨ho⟩
  rw [u9.eq, List.getElem?_set_ne (by omega)]
  exact hl8.keep.keep x o (by omega) ho
end
end Go.Proofs.Ytpkgcdpebomalaa.Asl
