/- What FnGraphOf draws. -/
import Derived.Test.YthbodgnoadlbcaaGreatDoorDD
namespace Go.Proofs.YthbodgnoadlbcaaGreatDoor.Asl
open Go.RowKit Go.Proofs.YthbodgnoadlbcaaGreatDoorW.PrintLast
set_option linter.unusedVariables false
set_option linter.unusedSimpArgs false
attribute [local irreducible] WP WL andThen inBlock noGoto atEnd ACall DA DL PO Hold nodeOk Tm.shape Tm.ok
set_option maxHeartbeats 4000000
set_option synthInstance.maxHeartbeats 400000
set_option synthInstance.maxSize 10000
section
variable {base : Nat} {G : Nat → Prop}
/-- A term and definitions that are drawn, alone. -/
def RetTDG (σ : Store) : AV → Store → Prop := fun r σ' => ∃ (t : Tm) (u v : AV) (xs : List Tm), r = .tup [.agg [I t.op, I t.n, u], v] ∧ RTs σ' u t.ps ∧ RTs σ' v xs ∧ xs.length ≤ 3 ∧ Grow σ σ'
theorem wc_callTDGr {E : Env} {ops : Array Oper} {l : List Oper} {Q : Exit → Slots → Store → Prop} {S : Slots} {σ : Store} {d : Option Tmp} {ty : TypeId} {pos : String} {af : Array Edge} {x : Operand} {args : Array Operand} {ats : Array TypeId} {f : FuncId} {rs caps : List AV} (hf : S.ev x = some (.fn f caps)) (hc : Callable E.P f) (hargs : evs S args.toList = some rs)
    (h : ACall E.P E.base f (rs ++ caps) σ (fun _ => False) (RetTDG σ)) (hd : okd E d = true) (k : ∀ (t : Tm) (u v : AV) (xs : List Tm) σ', One u → One v → RTs σ' u t.ps → RTs σ' v xs → xs.length ≤ 3 → Grow σ σ' → WL E ops l Q (S.put d (.tup [.agg [I t.op, I t.n, u], v])) σ') :
    WL E ops (⟨d, .call ⟨.value x, args, ats⟩, ty, pos, af, none⟩ :: l) Q S σ :=
  wc_call hf hc hargs h hd fun r' σ' h => by obtain ⟨t, u, v, xs, e, h1, h2, h3, h4⟩ := h; subst e; exact k t u v xs σ' h1.one h2.one h1 h2 h3 h4
theorem c_DrawGraphOf (b : AV) (gb : List UInt8) (σ : Store) [hs : RW σ b gb] (hg : gb.length ≤ 1048576) : ACall Tryz.prog base F_spec_DrawGraphOf [b] σ (fun _ => False) (RetTDG σ) := by
  have := hs.one
  refine acall1 fun_spec_DrawGraphOf rfl tmps_spec_DrawGraphOf rfl fun N B w₀ ρ₀ => ?_
  repeat' (first
    | (refine wc_callOpen rfl inferInstance rfl (c_l6Open b gb _ hg) rfl ?_; intro _ _ _ _ _ _ _ _)
    | refine wc_holdR 2 ?_
    | refine wp_seqA ?_
    | refine wp_region_seq ?_
    | refine thru_seq_next ?_
    | refine wl_nil ?_
    | refine wl_pop rfl (po_move rfl) ?_
    | refine wl_pop rfl (po_assign rfl) ?_
    | (refine wc_allocA (cs := [_, _, _]) inferInstance rfl inferInstance rfl ?_; intro _ _ _ _ _)
    | fail)
  rename_i i1 σ1 g1 n1 h1 i s g σ2 g2 n2 h2 b2
  have hni : σ.length ≤ i := Nat.le_trans g1.len n2.le
  have y0 := h1.lt
  have y1 := n2.le
  have y2 := h2.lt
  have y3 := g2.len
  refine hold_go ?_
  repeat' (first
    | (refine wc_callC rfl inferInstance rfl (c_l91Called i s g _ _ (by omega) (by omega)) inferInstance (.inr hni) rfl ?_; intro _ _ _ _ _ _ _ _ _ _ _ _ _ _ _ _)
    | (refine wc_storeA rfl rfl inferInstance inferInstance rfl inferInstance (Nat.le_of_ble_eq_true rfl) (.inr (may_newB i σ)) ?_; intro _ _)
    | refine wp_seqA ?_
    | refine wp_region_seq ?_
    | refine thru_seq_next ?_
    | refine wp_retA ?_
    | refine wl_nil ?_
    | refine wl_pop rfl (po_move rfl) ?_
    | refine wl_pop rfl (po_assign rfl) ?_
    | refine wc_loadn rfl inferInstance (at_has (cs := [_, _, _]) (.inl rfl) rfl rfl) rfl ?_
    | refine wl_pop rfl (po_extract rfl rfl) ?_
    | (refine wc_allocA (cs := [_, _, _]) inferInstance rfl inferInstance rfl ?_; intro _ _ _ _ _)
    | refine at_ret (res_cell2 rfl rfl inferInstance (at_has (cs := [_, _, _]) (.inl rfl) rfl rfl) rfl) ?_
    | fail)
  rename_i t u v xs p3 σ3 σ4 ou ov ru rv hx a1 a2 g4 u4 j σ5 g5 n5 h5 σ6 u6 σ7 u7
  have y4 := (inferInstance : LeB i σ2 σ4).len
  have y5 := n5.le
  have hl := (inferInstance : LeB i σ σ6)
  have RV : RepD σ7 (fun x => σ2.length ≤ x ∧ x < σ4.length) v xs := rv.rep.lt.mono (fun x o hx ho => by rw [u7.eq, List.getElem?_set_ne (by omega)]; exact (inferInstance : LeB i σ4 σ6).keep.keep x o (by omega) ho) (fun x hx => hx)
  have RU : RepD σ7 (fun x => σ2.length ≤ x ∧ x < σ4.length) u t.ps := ru.rep.lt.mono (fun x o hx ho => by rw [u7.eq, List.getElem?_set_ne (by omega)]; exact (inferInstance : LeB i σ4 σ6).keep.keep x o (by omega) ho) (fun x hx => hx)
  have z1 := n1.le
  refine ⟨t, u, v, xs, rfl, ⟨RU.rep.mono (fun _ _ _ h => h) (fun _ _ => trivial)⟩, ⟨RV.rep.mono (fun _ _ _ h => h) (fun _ _ => trivial)⟩, hx, ⟨fun x o ho => ?_⟩⟩
  have hx1 : x < σ.length := Has.lt ⟨ho⟩
  rw [u7.eq, List.getElem?_set_ne (by omega)]
  exact hl.keep.keep x o (by omega) ho
end
end Go.Proofs.YthbodgnoadlbcaaGreatDoor.Asl
