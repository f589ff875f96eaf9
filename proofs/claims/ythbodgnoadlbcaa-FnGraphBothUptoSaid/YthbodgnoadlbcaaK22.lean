/- Two graphs, drawn, alone. -/
import Derived.Test.YthbodgnoadlbcaaK19
namespace Go.Proofs.Ythbodgnoadlbcaa.Asl
open Go.RowKit Go.Proofs.YthbodgnoadlbcaaW.PrintLast
set_option linter.unusedVariables false
set_option linter.unusedSimpArgs false
attribute [local irreducible] WP WL andThen inBlock noGoto atEnd ACall DA DL DX PO Hold nodeOk Tm.shape Tm.ok Tm.txt graphO
set_option maxHeartbeats 4000000
set_option synthInstance.maxHeartbeats 400000
set_option synthInstance.maxSize 10000
section
variable {E : Env} {ops : Array Oper} {l : List Oper} {Q : Exit → Slots → Store → Prop} {S : Slots} {σ : Store} {d : Option Tmp} {ty : TypeId} {pos : String} {af : Array Edge} {x : Operand}
theorem wc_callTwi {args : Array Operand} {ats : Array TypeId} {f : FuncId} {rs caps : List AV} {i : Nat} {s : AV} {p K : Int} (hf : S.ev x = some (.fn f caps)) (hc : Callable E.P f) (hargs : evs S args.toList = some rs)
    (h : ACall E.P E.base f (rs ++ caps) σ (fun j => j = i) (RetRd σ i s p K (QTw σ))) (ho : Has σ i (RdO s p)) (hm : E.may i) (hd : okd E d = true) (k : ∀ (u : AV) (us : List AV) (g : Gr) (u' : AV) (us' : List AV) (g' : Gr) (p' : Int) σ₁ σ', One u → One u' → NG σ σ' u us g → NG σ σ' u' us' g' → (∀ l ∈ g, l.length ≤ 331776) → (∀ l ∈ g', l.length ≤ 331776) → p ≤ p' → p' ≤ p + K → Grow σ σ₁ → Upd σ₁ i (RdO s p') σ' → WL E ops l Q (S.put d (.tup [.agg [u], .agg [u']])) σ') :
    WL E ops (⟨d, .call ⟨.value x, args, ats⟩, ty, pos, af, none⟩ :: l) Q S σ :=
  wc_callRd hf hc hargs h ho hm hd fun r p' σ₁ σ' h1 h2 g u hq => by
    obtain ⟨w, ws, gr, w', ws', gr', rfl, h3, h4, h5, h6⟩ := hq
    exact k w ws gr w' ws' gr' p' σ₁ σ' (instNGRW (h := h3)).one (instNGRW (h := h4)).one h3 h4 h5 h6 h1 h2 g u
/-- Two graphs that are drawn, alone. -/
def RetTw (σ : Store) : AV → Store → Prop := fun r σ' => QTw σ r σ' ∧ Grow σ σ'
theorem wc_callTw {args : Array Operand} {ats : Array TypeId} {f : FuncId} {rs caps : List AV} (hf : S.ev x = some (.fn f caps)) (hc : Callable E.P f) (hargs : evs S args.toList = some rs)
    (h : ACall E.P E.base f (rs ++ caps) σ (fun _ => False) (RetTw σ)) (hd : okd E d = true) (k : ∀ (u : AV) (us : List AV) (g : Gr) (u' : AV) (us' : List AV) (g' : Gr) σ', One u → One u' → NG σ σ' u us g → NG σ σ' u' us' g' → (∀ l ∈ g, l.length ≤ 331776) → (∀ l ∈ g', l.length ≤ 331776) → Grow σ σ' → WL E ops l Q (S.put d (.tup [.agg [u], .agg [u']])) σ') :
    WL E ops (⟨d, .call ⟨.value x, args, ats⟩, ty, pos, af, none⟩ :: l) Q S σ :=
  wc_call hf hc hargs h hd fun r' σ' h => by
    obtain ⟨⟨w, ws, gr, w', ws', gr', rfl, h3, h4, h5, h6⟩, hg⟩ := h
    exact k w ws gr w' ws' gr' σ' (instNGRW (h := h3)).one (instNGRW (h := h4)).one h3 h4 h5 h6 hg
end
section
variable {base : Nat}
theorem c_DrawGraphBoth (b : AV) (gb : List UInt8) (σ : Store) [hs : RW σ b gb] (hg : gb.length ≤ 1048576) : ACall Try.prog base F_spec_DrawGraphBoth [b] σ (fun _ => False) (RetTw σ) := by
  have := hs.one
  refine acall1 fun_spec_DrawGraphBoth rfl tmps_spec_DrawGraphBoth rfl fun N B w₀ ρ₀ => ?_
  repeat' (first
    | (refine wc_callOpen rfl inferInstance rfl (c_l6Open b gb _ hg) rfl ?_; intro _ _ _ _ _ _ _ _)
    | refine wc_holdR 2 ?_
    | refine wp_seqA ?_
    | refine wp_region_seq ?_
    | refine thru_seq_next ?_
    | refine wl_nil ?_
    | refine wl_pop rfl (po_move rfl) ?_
    | refine wl_pop rfl (po_assign rfl) ?_
    | (refine wc_allocA (cs := [_]) inferInstance rfl inferInstance rfl ?_; intro _ _ _ _ _)
    | fail)
  rename_i i1 σ1 g1 n1 h1 i2 σ2 g2 n2 h2 i s g σ3 g3 n3 h3 b3
  have z1 := n1.le
  have z2 := h1.lt
  have z3 := n2.le
  have z4 := h2.lt
  have z5 := n3.le
  have z6 := h3.lt
  have z7 := g1.len
  have z8 := g2.len
  have z9 := g3.len
  have hni : σ.length ≤ i := by omega
  have h13 : Has σ3 i1 ⟨.own, 1, [nilS], []⟩ := inferInstance
  have h23 : Has σ3 i2 ⟨.own, 1, [nilS], []⟩ := inferInstance
  have l3 : LeS σ σ3 := inferInstance
  refine hold_go ?_
  repeat' (first
    | (refine wc_callTwi rfl inferInstance rfl (c_l91Twins i s g _ _ (hb := b3) (by omega) (by omega)) inferInstance (.inr hni) rfl ?_; intro _ _ _ _ _ _ _ _ _ _ _ _ _ _ _ _ _ _ _)
    | (refine wc_storeA rfl rfl inferInstance inferInstance rfl inferInstance (Nat.le_of_ble_eq_true rfl) (.inr (may_newB i σ)) ?_; intro _ _)
    | refine wc_holdR 3 ?_
    | refine wp_seqA ?_
    | refine wp_region_seq ?_
    | refine thru_seq_next ?_
    | refine wl_nil ?_
    | refine wl_pop rfl (po_move rfl) ?_
    | refine wl_pop rfl (po_extract rfl rfl) ?_
    | (refine wc_allocA (cs := [_]) inferInstance rfl inferInstance rfl ?_; intro _ _ _ _ _)
    | fail)
  rename_i u us gr u' us' gr' p4 σ4 σ5 ou ou' ng ng' hga hgb a1 a2 g5 u5 j σ6 g6 n6 h6 j2 σ7 g7 n7 h7 σ8 u8 σ' u9
  have y1 := (inferInstance : LeB i σ3 σ5).len
  have y2 := n6.le
  have y3 := h6.lt
  have y4 := n7.le
  have y5 := h7.lt
  have y6 := Upd.len u8
  have y7 := Upd.len u9
  have y8 := g6.len
  have y9 := g7.len
  have k59 : ∀ (x : Nat) (o : Ob), x < σ5.length → σ5[x]? = some o → σ'[x]? = some o := fun x o hx ho => by rw [u9.eq, List.getElem?_set_ne (by omega), u8.eq, List.getElem?_set_ne (by omega)]; exact g7.keep x o (g6.keep x o ho)
  have k39 : ∀ (x : Nat) (o : Ob), x ≠ i → σ3[x]? = some o → σ'[x]? = some o := fun x o hx ho => k59 x o (by have := Has.lt ⟨ho⟩; omega) ((inferInstance : LeB i σ3 σ5).keep.keep x o hx ho)
  have hj : Has σ' j ⟨.own, 1, [u], []⟩ := ⟨by rw [u9.eq, List.getElem?_set_ne (by omega)]; exact (instHasUpd (g := u8) : Has σ8 j ⟨.own, 1, [u], []⟩).get⟩
  have hk : Has σ' j2 ⟨.own, 1, [u'], []⟩ := instHasUpd (g := u9)
  have hi1 : Has σ' i1 ⟨.own, 1, [nilS], []⟩ := ⟨k39 _ _ (by omega) h13.get⟩
  have hi2 : Has σ' i2 ⟨.own, 1, [nilS], []⟩ := ⟨k39 _ _ (by omega) h23.get⟩
  have N1 : NG σ3 σ' u us gr := ng.keep fun x o hx ho => k59 x o (Has.lt ⟨ho⟩) ho
  have N2 : NG σ3 σ' u' us' gr' := ng'.keep fun x o hx ho => k59 x o (Has.lt ⟨ho⟩) ho
  clear u5 u8 u9 h6 h7 ng ng' h1 h2
  refine hold_go ?_
  refine wc_drawnXp (t := 2) i1 [3] mixed_ rfl rfl ?_
  refine dx_loadnB 0 rfl rfl (by kernel_rfl) rfl inferInstance (at_has (h := hj) (cs := [_]) (.inl rfl) rfl rfl) hj.lt hi1 (by omega) ?_
  refine dx_loadnB 1 rfl rfl (by kernel_rfl) rfl inferInstance (at_has (h := hk) (cs := [_]) (.inl rfl) rfl rfl) hk.lt hi1 (by omega) ?_
  refine dx_one 2 rfl (by kernel_rfl) hi1 (.inr (by omega)) ?_
  intro N' B' w' r' may' hmay
  refine wc_storeA rfl rfl inferInstance hi1 rfl inferInstance (Nat.le_of_ble_eq_true rfl) (hmay _ (.inl rfl)) ?_
  intro σx ux
  have d12 : Has σx i2 ⟨.own, 1, [nilS], []⟩ := ⟨by rw [ux.eq, List.getElem?_set_ne (by omega)]; exact hi2.get⟩
  refine wl_nil ⟨rfl, by have := Upd.len ux; omega, ?_⟩
  refine dx_last 3 rfl (by decide) (by kernel_rfl) ?_
  refine wc_storeA rfl rfl inferInstance d12 rfl inferInstance (Nat.le_of_ble_eq_true rfl) (.inr (by show σ.length ≤ i2; omega)) ?_
  intro σy uy
  refine wl_nil (dl_in ?_)
  refine dl_done (by kernel_rfl) ?_
  have e1 : Has σy i1 ⟨.own, 1, [u], []⟩ := ⟨by rw [uy.eq, List.getElem?_set_ne (by omega)]; exact (instHasUpd (g := ux) : Has σx i1 ⟨.own, 1, [u], []⟩).get⟩
  have e2 : Has σy i2 ⟨.own, 1, [u'], []⟩ := instHasUpd (g := uy)
  have kk : ∀ (x : Nat) (o : Ob), x ≠ i1 → x ≠ i2 → σ'[x]? = some o → σy[x]? = some o := fun x o h1 h2 ho => by rw [uy.eq, List.getElem?_set_ne (by omega), ux.eq, List.getElem?_set_ne (by omega)]; exact ho
  have ly : σy.length = σ'.length := by have := Upd.len uy; have := Upd.len ux; omega
  repeat' (first
    | refine at_ret (res_cc rfl rfl inferInstance (at_has (h := e1) (cs := [_]) (.inl rfl) rfl rfl) rfl inferInstance (at_has (h := e2) (cs := [_]) (.inl rfl) rfl rfl)) ?_
    | refine thru_seq_next ?_
    | refine wp_retA ?_
    | fail)
  exact ⟨⟨u, us, gr, u', us', gr', rfl, (N1.keep fun x o hx ho => kk x o (by omega) (by omega) ho).down (by omega), (N2.keep fun x o hx ho => kk x o (by omega) (by omega) ho).down (by omega), hga, hgb⟩, ⟨fun x o ho => by have hx1 : x < σ.length := Has.lt ⟨ho⟩; exact kk x o (by omega) (by omega) (k39 x o (by omega) (l3.keep x o ho))⟩⟩
end
end Go.Proofs.Ythbodgnoadlbcaa.Asl
