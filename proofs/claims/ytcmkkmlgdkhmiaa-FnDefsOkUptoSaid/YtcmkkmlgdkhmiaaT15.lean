/- A term marked. -/
import Derived.Test.YtcmkkmlgdkhmiaaT14
import Derived.Test.YtcmkkmlgdkhmiaaT1
import Derived.Test.YtcmkkmlgdkhmiaaT2
namespace Go.Proofs.Ytcmkkmlgdkhmiaa.Asl
open Go.RowKit
set_option linter.unusedVariables false
attribute [local irreducible] WP WL andThen inBlock noGoto atEnd ACall DA DL PO Hold actB inB nodeOk
set_option maxHeartbeats 4000000

section
variable {E : Env} {ops : Array Oper} {l : List Oper} {Q : Exit → Slots → Store → Prop} {S : Slots} {σ : Store} {d : Option Tmp} {ty : TypeId} {pos : String} {af : Array Edge} {x y : Operand}
theorem wc_callMk {args : Array Operand} {ats : Array TypeId} {f : FuncId} {rs caps : List AV} {F : Nat → Prop} {s : AV} {a : Int} {ps : List Tm} (σa σb : Store) (hf : S.ev x = some (.fn f caps)) (hc : Callable E.P f) (hargs : evs S args.toList = some rs)
    (h : ACall E.P E.base f (rs ++ caps) σ F (RetMark σ F s a ps)) (hF : ∀ j, F j → σa.length ≤ j ∧ j < σb.length) (hown : ∀ i, F i → ∃ l, Has σ i ⟨.own, 3, l, []⟩) (hm : ∀ i, F i → E.may i) (hd : okd E d = true)
    (k : ∀ σ', Mk σ σa σb σ' → RepD σ' F s (Tm.marks a ps) → WL E ops l Q (S.put d (I (a + 2 * (Tm.cnts ps : Int)))) σ') :
    WL E ops (⟨d, .call ⟨.value x, args, ats⟩, ty, pos, af, none⟩ :: l) Q S σ :=
  wl_call hf hc hargs h (fun i hi => ⟨hm i hi, by obtain ⟨l', h⟩ := hown i hi; exact ⟨_, h.get, .inl rfl⟩⟩) hd fun r σ' hK => by
    obtain ⟨e, h1, h2, h3⟩ := hK
    subst e
    exact k σ' ⟨fun j o hj => h3 j o (fun hi => by have := hF j hi; omega)⟩ h1
end
section
variable {base : Nat}
theorem c_markTerm (t : Tm) (F : Nat → Prop) (s : AV) (a : Int) (σ : Store) (hF : ∀ i, F i → ∃ l, Has σ i ⟨.own, 3, l, []⟩) (hrep : RepD σ F s t.ps) (ha : 0 ≤ a) (ha2 : a + 2 * (Tm.cnts t.ps : Int) ≤ 1000000000000) :
    ACall Try.prog base F_laws_markTerm [.agg [I t.op, I t.n, s], I a] σ F (RetMark σ F s a t.ps) := by
  have := hrep.one
  refine acall2 fun_laws_markTerm rfl tmps_laws_markTerm rfl fun N B w₀ ρ₀ => ?_
  repeat' (first
    | refine wp_seqA ?_
    | refine wp_region_seq ?_
    | refine thru_seq_next ?_
    | refine wl_nil ?_
    | refine wl_pop rfl (po_move rfl) ?_
    | refine wl_pop rfl (po_assign rfl) ?_
    | refine wl_pop rfl (po_fieldAddr rfl inferInstance) ?_
    | refine wc_load1 rfl inferInstance (at_has (.inl rfl) rfl rfl) rfl ?_
    | (refine wc_boxA rfl inferInstance rfl ?_; intro _ _ _ _ _)
    | fail)
  rename_i i σ₁ g1 n1 h1
  have hF1 : ∀ i, F i → ∃ l, Has σ₁ i ⟨.own, 3, l, []⟩ := fun i hi => by obtain ⟨l, h⟩ := hF i hi; exact ⟨l, inferInstance⟩
  refine wl_call rfl inferInstance rfl (c_markTermS_all t F s a σ₁ hF1 (hrep.mono (fun i o _ ho => g1.keep i o ho) (fun _ h => h)) ha ha2) (fun i hi => ⟨.inl hi, by obtain ⟨l', h⟩ := hF1 i hi; exact ⟨_, h.get, .inl rfl⟩⟩) rfl ?_
  rintro _ σ2 ⟨rfl, h2, h3, h4⟩
  repeat' (first
    | refine wp_seqA ?_
    | refine wp_region_seq ?_
    | refine thru_seq_next ?_
    | refine wp_retA ?_
    | refine wl_nil ?_
    | refine wl_pop rfl (po_move rfl) ?_
    | refine wl_pop rfl (po_assign rfl) ?_
    | refine at_ret (res1 rfl rfl) ?_
    | fail)
  exact ⟨rfl, h2, h3, fun j o hj ho => h4 j o hj (g1.keep j o ho)⟩
theorem c_toTermL {t : Tm} {s : AV} {σ₀ : Store} (hs : RTs σ₀ s t.ps) (σ : Store) [g : LeS σ₀ σ] : ACall Try.prog base F_laws_toTerm [.agg [I t.op, I t.n, s]] σ (fun _ => False) (RetTmD σ t) :=
  have := hs.les g
  c_toTermD t σ s
theorem c_eqTerm_self (t : Tm) (σ : Store) (s s' : AV) [RTs σ s t.ps] [RTs σ s' t.ps] : ACall Try.prog base F_laws_eqTerm [.agg [I t.op, I t.n, s], .agg [I t.op, I t.n, s']] σ (fun _ => False) (Ret σ (Bo true)) := by
  have := c_eqTerm (base := base) t t σ s s'
  rwa [eqB_self] at this
end
end Go.Proofs.Ytcmkkmlgdkhmiaa.Asl
