/- Names exchanged in a term: both programs, whole. -/
import Derived.Test.YthbodgnoadlbcaaDoorT19
import Derived.Test.YthbodgnoadlbcaaDoorTT
namespace Go.Proofs.YthbodgnoadlbcaaDoor.Asl
open Go.RowKit
set_option linter.unusedVariables false
attribute [local irreducible] WP WL andThen inBlock noGoto atEnd ACall DA DL PO Hold actB inB nodeOk Tm.shape Tm.ok
set_option maxHeartbeats 4000000

def tmO (o : Option Tm) : Tm := o.getD (.node 0 0 [])
def RetTO (σ : Store) (o : Option Tm) : AV → Store → Prop := fun r σ' => ∃ s, r = .tup [.agg [I (tmO o).op, I (tmO o).n, s], Bo o.isSome] ∧ RTsD σ σ' s (tmO o).ps ∧ Grow σ σ'
theorem ret_to_none {σ σ' : Store} {o : Option Tm} (h : o = none) (l : LeS σ σ') : RetTO σ o (.tup [.agg [I 0, I 0, nilS], Bo false]) σ' := by
  subst h; exact ⟨nilS, rfl, ⟨.nil⟩, l.grow⟩
theorem ret_to {σ σ₁ σ' : Store} {o : Option Tm} {t : Tm} {u : AV} (h : o = some t) (h1 : RTsD σ₁ σ' u t.ps) (k1 : LeS σ σ₁) (l : LeS σ σ') : RetTO σ o (.tup [.agg [I t.op, I t.n, u], Bo true]) σ' := by
  subst h; exact ⟨u, rfl, h1.down k1.len, l.grow⟩
def Tm.swO (t : Tm) (a b : Int) : Option Tm := if (t.ok && inB a 0 3 && inB b 0 3) = true then some (t.sw a b) else none
section
variable {E : Env} {ops : Array Oper} {l : List Oper} {Q : Exit → Slots → Store → Prop} {S : Slots} {σ : Store} {d : Option Tmp} {ty : TypeId} {pos : String} {af : Array Edge} {x y : Operand} {n0 fuel : Nat} {ds : List Nat} {listed : Array Bool}
theorem wc_callTO {args : Array Operand} {ats : Array TypeId} {f : FuncId} {rs caps : List AV} {o : Option Tm} (hf : S.ev x = some (.fn f caps)) (hc : Callable E.P f) (hargs : evs S args.toList = some rs)
    (h : ACall E.P E.base f (rs ++ caps) σ (fun _ => False) (RetTO σ o)) (hd : okd E d = true) (k : ∀ s σ', One s → RTsD σ σ' s (tmO o).ps → Grow σ σ' → WL E ops l Q (S.put d (.tup [.agg [I (tmO o).op, I (tmO o).n, s], Bo o.isSome])) σ') :
    WL E ops (⟨d, .call ⟨.value x, args, ats⟩, ty, pos, af, none⟩ :: l) Q S σ :=
  wc_call hf hc hargs h hd fun r' σ' h => by obtain ⟨s, e, hr, hg⟩ := h; subst e; exact k s σ' hr.new.rts.one hr hg
end
end Go.Proofs.YthbodgnoadlbcaaDoor.Asl
