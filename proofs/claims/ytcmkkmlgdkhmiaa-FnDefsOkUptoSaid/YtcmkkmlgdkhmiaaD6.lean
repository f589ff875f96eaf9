/- The reader: a term with definitions. -/
import Derived.Test.YtcmkkmlgdkhmiaaD5
namespace Go.Proofs.Ytcmkkmlgdkhmiaa.Asl
open Go.RowKit
set_option linter.unusedVariables false
set_option linter.unusedSimpArgs false
attribute [local irreducible] WP WL andThen inBlock noGoto atEnd ACall DA DL PO Hold
set_option maxHeartbeats 4000000
section
variable {E : Env} {ops : Array Oper} {l : List Oper} {Q : Exit → Slots → Store → Prop} {S : Slots} {σ : Store} {d : Option Tmp} {ty : TypeId} {pos : String} {af : Array Edge} {x y : Operand}
theorem wc_callTsR {args : Array Operand} {ats : Array TypeId} {f : FuncId} {rs caps : List AV} {i n : Nat} {s : AV} {p K : Int} (hf : S.ev x = some (.fn f caps)) (hc : Callable E.P f) (hargs : evs S args.toList = some rs)
    (h : ACall E.P E.base f (rs ++ caps) σ (fun j => j = i) (RetRd σ i s p K (QTs σ n))) (ho : Has σ i (RdO s p)) (hm : E.may i) (hd : okd E d = true) (k : ∀ (v : AV) (xs : List Tm) (p' : Int) σ₁ σ', One v → xs.length ≤ n → RTsD σ σ' v xs → p ≤ p' → p' ≤ p + K → Grow σ σ₁ → Upd σ₁ i (RdO s p') σ' → WL E ops l Q (S.put d v) σ') :
    WL E ops (⟨d, .call ⟨.value x, args, ats⟩, ty, pos, af, none⟩ :: l) Q S σ :=
  wc_callRd hf hc hargs h ho hm hd fun r p' σ₁ σ' h1 h2 g u hq => by
    obtain ⟨xs, h3, h4⟩ := hq
    exact k r xs p' σ₁ σ' h4.new.rts.one h3 h4 h1 h2 g u
theorem wc_callTU {args : Array Operand} {ats : Array TypeId} {f : FuncId} {rs caps : List AV} {i : Nat} {s : AV} {p K : Int} (hf : S.ev x = some (.fn f caps)) (hc : Callable E.P f) (hargs : evs S args.toList = some rs)
    (h : ACall E.P E.base f (rs ++ caps) σ (fun j => j = i) (RetRd σ i s p K (QU σ))) (ho : Has σ i (RdO s p)) (hm : E.may i) (hd : okd E d = true) (k : ∀ (t : Tm) (u : AV) (p' : Int) σ₁ σ', One u → RTsD σ σ' u t.ps → p ≤ p' → p' ≤ p + K → Grow σ σ₁ → Upd σ₁ i (RdO s p') σ' → WL E ops l Q (S.put d (.agg [I t.op, I t.n, u])) σ') :
    WL E ops (⟨d, .call ⟨.value x, args, ats⟩, ty, pos, af, none⟩ :: l) Q S σ :=
  wc_callRd hf hc hargs h ho hm hd fun r p' σ₁ σ' h1 h2 g u hq => by
    obtain ⟨t, v, rfl, h3⟩ := hq
    exact k t v p' σ₁ σ' h3.new.rts.one h3 h1 h2 g u
end
theorem rts_le {i : Nat} {σ σ' : Store} {F : Nat → Prop} {v : AV} {xs : List Tm} (h : RepD σ F v xs) (hF : ∀ x, F x → x ≠ i) (l : LeB i σ σ') : RTs σ' v xs :=
  ⟨(h.mono (fun x o hx ho => l.keep.keep x o (hF x hx) ho) (fun _ h => h)).rep.mono (fun _ _ _ h => h) (fun _ _ => trivial)⟩
section
variable {base : Nat}
/-- A term and definitions that are drawn. -/
def QC (σ : Store) : AV → Store → Prop := fun r σ' => ∃ (t : Tm) (u v : AV) (xs : List Tm), r = .tup [.agg [I t.op, I t.n, u], v] ∧ RTsD σ σ' u t.ps ∧ RTsD σ σ' v xs ∧ xs.length ≤ 3
theorem c_l91Called (i : Nat) (s : AV) (g : List UInt8) (p : Int) (σ : Store) [hi : Has σ i (RdO s p)] [hb : Bk σ i s g] (hp : 0 ≤ p) (hp2 : p ≤ 999900000) : ACall Try.prog base F_spec_l91Called [.pt i 0] σ (fun j => j = i) (RetRd σ i s p 4000 (QC σ)) := by
  have := hb.rw.one
  have hi0 := hi.lt
  refine acall1 fun_spec_l91Called rfl tmps_spec_l91Called rfl fun N B w₀ ρ₀ => ?_
  repeat' (first
    | (refine wc_callTsR rfl inferInstance rfl (c_l91Defs i s g _ _ (hb := hb.le inferInstance) (by omega) (by omega)) inferInstance (.inl rfl) rfl ?_; intro _ _ _ _ _ _ _ _ _ _ _ _)
    | (refine wc_callTU rfl inferInstance rfl (c_l91Term i s g _ _ _ (hb := hb.le inferInstance) (by omega) (by omega) (by omega) (by omega)) inferInstance (.inl rfl) rfl ?_; intro _ _ _ _ _ _ _ _ _ _ _)
    | (refine wc_storeA rfl rfl inferInstance inferInstance rfl inferInstance (Nat.le_of_ble_eq_true rfl) (.inr (may_newB i σ)) ?_; intro _ _)
    | refine wc_holdR 3 ?_
    | refine wp_seqA ?_
    | refine wp_region_seq ?_
    | refine thru_seq_next ?_
    | refine wl_nil ?_
    | refine wl_pop rfl (po_move rfl) ?_
    | refine wl_pop rfl (po_assign rfl) ?_
    | (refine wc_allocA (cs := [_, _, _]) inferInstance rfl inferInstance rfl ?_; intro _ _ _ _ _)
    | refine wl_pop rfl (pc_lenT rfl inferInstance inferInstance) ?_
    | fail)
  rename_i i1 σ1 g1 n1 h1 v xs p1 σ2 σ3 hv hxs rv a1 a2 g3 u3 t u p2 σ4 σ5 hu ru a3 a4 g5 u5 j σ6 g6 n6 h6 σ7 u7
  have y0 := (inferInstance : LeB i σ σ1).len
  have y1 := h1.lt
  have y2 := (inferInstance : LeB i σ1 σ3).len
  have y3 := (inferInstance : LeB i σ3 σ5).len
  have y4 := n6.le
  have hj1 : σ.length ≤ j := by omega
  have hnj : New σ j := ⟨hj1⟩
  have d1 : Dif i1 j := ⟨by omega⟩
  have d2 : Dif i j := ⟨by omega⟩
  have RV : RepD σ7 (fun x => σ1.length ≤ x ∧ x < σ3.length) v xs := rv.rep.lt.mono (fun x o hx ho => (inferInstance : LeB i σ3 σ7).keep.keep x o (by omega) ho) (fun x hx => hx)
  have RU : RepD σ7 (fun x => σ3.length ≤ x ∧ x < σ5.length) u t.ps := ru.rep.lt.mono (fun x o hx ho => (inferInstance : LeB i σ5 σ7).keep.keep x o (by omega) ho) (fun x hx => hx)
  have h7 : Has σ7 j ⟨.own, 1, [I t.op, I t.n, u], []⟩ := (inferInstance : Has σ7 j ⟨.own, 1, splice [I 0, I 0, nilS] 0 [I t.op, I t.n, u], []⟩)
  have hi7 : Has σ7 i (RdO s p2) := inferInstance
  have hi1 : Has σ7 i1 ⟨.own, 1, [I 0, I 0, nilS], []⟩ := (inferInstance : Has σ7 i1 _)
  have hle7 : LeB i σ σ7 := inferInstance
  have hRTs : RTs σ7 v xs := ⟨RV.rep.mono (fun _ _ _ h => h) (fun _ _ => trivial)⟩
  clear u7 h6
  refine hold_go ?_
  repeat' (first
    | (refine wc_callP rfl inferInstance rfl (c_pick i s g _ _ _ (hb := hb.le inferInstance) (by omega) (by omega)) inferInstance (.inl rfl) rfl ?_; intro _ _ _ _ _ _ _ _ _ _)
    | refine wl_pop rfl (pc_lenT rfl (rts_le (i := i) RV (fun x hx => by omega) inferInstance) inferInstance) ?_
    | refine wl_pop rfl (pc_tm2 rfl rfl inferInstance inferInstance rfl) ?_
    | refine wp_seqA ?_
    | refine wp_region_seq ?_
    | refine thru_seq_next ?_
    | refine wp_skipA ?_
    | refine wp_retA ?_
    | refine wl_nil ?_
    | refine wl_pop rfl (po_move rfl) ?_
    | refine wl_pop rfl (po_assign rfl) ?_
    | refine wl_pop rfl (po_binOp rfl rfl rfl) ?_
    | refine wc_loadn rfl inferInstance (at_has (cs := [_, _, _]) (.inl rfl) rfl rfl) rfl ?_
    | (refine wc_storeA rfl rfl inferInstance inferInstance rfl inferInstance (Nat.le_of_ble_eq_true rfl) (.inr (may_new _)) ?_; intro _ _)
    | refine wl_pop rfl (po_pick rfl rfl) ?_
    | refine wc_guardT_true rfl rfl rfl ?_
    | refine wc_guardF_true rfl rfl rfl rfl ?_
    | refine wc_guardP_true rfl rfl rfl rfl (fun _ => ?_) (fun _ => ?_)
    | refine wp_condF rfl ?_
    | refine wp_condP rfl (fun _ => ?_) (fun _ => ?_)
    | refine at_ret (res_cell2 rfl rfl inferInstance (at_has (cs := [_, _, _]) (.inl rfl) rfl rfl) rfl) ?_
    | fail)
  · rename_i hx v3 p3 σ8 σ9 c1 c2 c3 c4 g9 u9 hz v4 p4 σ10 σ11 c5 c6 c7 c8 g11 u11 σ12 u12 σ13 u13
    exact ⟨⟨p4, by omega, by omega, inferInstance⟩, inferInstance, .node 5 v4 [], nilS, v, xs, rfl, ⟨.nil⟩, ⟨RV.mono (fun x o hx ho => by rw [u13.eq, List.getElem?_set_ne (by omega), u12.eq, List.getElem?_set_ne (by omega)]; exact (inferInstance : LeB i σ7 σ11).keep.keep x o (by omega) ho) (fun x hx => by omega)⟩, hxs⟩
  · rename_i hx v3 p3 σ8 σ9 c1 c2 c3 c4 g9 u9 hz σ10 u10
    exact ⟨⟨p3, by omega, by omega, inferInstance⟩, inferInstance, t, u, v, xs, rfl, ⟨RU.mono (fun x o hx ho => by rw [u10.eq, List.getElem?_set_ne (by omega)]; exact (inferInstance : LeB i σ7 σ9).keep.keep x o (by omega) ho) (fun x hx => by omega)⟩, ⟨RV.mono (fun x o hx ho => by rw [u10.eq, List.getElem?_set_ne (by omega)]; exact (inferInstance : LeB i σ7 σ9).keep.keep x o (by omega) ho) (fun x hx => by omega)⟩, hxs⟩
  · rename_i hx σ8 u8
    exact ⟨⟨p2, by omega, by omega, inferInstance⟩, inferInstance, t, u, v, xs, rfl, ⟨RU.mono (fun x o hx ho => by rw [u8.eq, List.getElem?_set_ne (by omega)]; exact ho) (fun x hx => by omega)⟩, ⟨RV.mono (fun x o hx ho => by rw [u8.eq, List.getElem?_set_ne (by omega)]; exact ho) (fun x hx => by omega)⟩, hxs⟩
theorem wc_callOpen {E : Env} {ops : Array Oper} {l : List Oper} {Q : Exit → Slots → Store → Prop} {S : Slots} {σ : Store} {d : Option Tmp} {ty : TypeId} {pos : String} {af : Array Edge} {x : Operand} {args : Array Operand} {ats : Array TypeId} {f : FuncId} {rs caps : List AV} (hf : S.ev x = some (.fn f caps)) (hc : Callable E.P f) (hargs : evs S args.toList = some rs)
    (h : ACall E.P E.base f (rs ++ caps) σ (fun _ => False) (RetOpen σ)) (hd : okd E d = true) (k : ∀ i s g σ', Grow σ σ' → New σ i → Has σ' i (RdO s 0) → Bk σ' i s g → WL E ops l Q (S.put d (.pt i 0)) σ') :
    WL E ops (⟨d, .call ⟨.value x, args, ats⟩, ty, pos, af, none⟩ :: l) Q S σ :=
  wc_call hf hc hargs h hd fun r' σ' h => by obtain ⟨i, s, e, h1, h2, ⟨g, h3⟩, h4⟩ := h; subst e; exact k i s g σ' h4 h1 h2 h3
theorem wc_callC {E : Env} {ops : Array Oper} {l : List Oper} {Q : Exit → Slots → Store → Prop} {S : Slots} {σ : Store} {d : Option Tmp} {ty : TypeId} {pos : String} {af : Array Edge} {x : Operand} {args : Array Operand} {ats : Array TypeId} {f : FuncId} {rs caps : List AV} {i : Nat} {s : AV} {p K : Int} (hf : S.ev x = some (.fn f caps)) (hc : Callable E.P f) (hargs : evs S args.toList = some rs)
    (h : ACall E.P E.base f (rs ++ caps) σ (fun j => j = i) (RetRd σ i s p K (QC σ))) (ho : Has σ i (RdO s p)) (hm : E.may i) (hd : okd E d = true) (k : ∀ (t : Tm) (u v : AV) (xs : List Tm) (p' : Int) σ₁ σ', One u → One v → RTsD σ σ' u t.ps → RTsD σ σ' v xs → xs.length ≤ 3 → p ≤ p' → p' ≤ p + K → Grow σ σ₁ → Upd σ₁ i (RdO s p') σ' → WL E ops l Q (S.put d (.tup [.agg [I t.op, I t.n, u], v])) σ') :
    WL E ops (⟨d, .call ⟨.value x, args, ats⟩, ty, pos, af, none⟩ :: l) Q S σ :=
  wc_callRd hf hc hargs h ho hm hd fun r p' σ₁ σ' h1 h2 g u hq => by
    obtain ⟨t, v, w, xs, rfl, h3, h4, h5⟩ := hq
    exact k t v w xs p' σ₁ σ' h3.new.rts.one h4.new.rts.one h3 h4 h5 h1 h2 g u
end
end Go.Proofs.Ytcmkkmlgdkhmiaa.Asl
