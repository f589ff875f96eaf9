/- Trees: how terms lie in the store. -/
import Derived.Test.YtcmkkmlgdkhmiaaBB
namespace Go.Proofs.Ytcmkkmlgdkhmiaa.Asl
open Go.RowKit
set_option linter.unusedVariables false

/-- A tree: a kind, a number, and parts. -/
inductive Tm where
  | node (op n : Int) (ps : List Tm)
namespace Tm
def op : Tm → Int | node o _ _ => o
def n : Tm → Int | node _ n _ => n
def ps : Tm → List Tm | node _ _ ps => ps
theorem ind {P : Tm → Prop} (h : ∀ op n ps, (∀ p ∈ ps, P p) → P (node op n ps)) : ∀ t, P t
  | node op n ps => h op n ps fun p hp => ind h p
termination_by t => SizeOf.sizeOf t
decreasing_by
  have := List.sizeOf_lt_of_mem hp
  simp only [node.sizeOf_spec]; omega
end Tm

/-- A list of terms lies in the store, in objects of which F tells. -/
inductive RepTs (σ : Store) (F : Nat → Prop) : AV → List Tm → Prop
  | nil {a : Option Addr} {c : Nat} : RepTs σ F (.lit (.slice a 0 c)) []
  | row {id off : Nat} {o : Ob} {ps : List Tm} (ss : List AV) : F id → σ[id]? = some o → o.readable → o.esz = 3 → ps.length ≤ 4294967296 → ss.length = ps.length →
      (∀ (k : Nat) (t : Tm) (s : AV), ps[k]? = some t → ss[k]? = some s → cut o (off + k * 3) 3 = [I t.op, I t.n, s]) → (∀ (k : Nat) (t : Tm) (s : AV), ps[k]? = some t → ss[k]? = some s → RepTs σ F s t.ps) → RepTs σ F (.sl id off ps.length) ps

theorem RepTs.mono {σ σ' : Store} {F F' : Nat → Prop} (hk : ∀ (i : Nat) (o : Ob), F i → σ[i]? = some o → σ'[i]? = some o) (hF : ∀ i, F i → F' i) {s : AV} {ps : List Tm} (h : RepTs σ F s ps) : RepTs σ' F' s ps := by
  induction h with
  | nil => exact .nil
  | row ss h1 h2 h3 h4 h45 h5 h6 h7 ih => exact .row ss (hF _ h1) (hk _ _ h1 h2) h3 h4 h45 h5 h6 fun k t s ht hs => ih k t s ht hs

/-- A list of terms lies in the store. -/
class RTs (σ : Store) (s : AV) (ps : outParam (List Tm)) : Prop where
  rep : RepTs σ (fun _ => True) s ps
/-- A list of terms lies in objects that are new since a store. -/
class RTsN (σ₀ : outParam Store) (σ : Store) (s : AV) (ps : outParam (List Tm)) : Prop where
  rep : RepTs σ (fun i => σ₀.length ≤ i) s ps
instance instRTsGrow {σ σ' : Store} {s : AV} {ps : List Tm} [g : Grow σ σ'] [h : RTs σ s ps] : RTs σ' s ps := ⟨h.rep.mono (fun i o _ => g.keep i o) (fun _ _ => trivial)⟩
instance instRTsUpd {σa σ σ' : Store} {i : Nat} {o' : Ob} {s : AV} {ps : List Tm} [g : Upd σ i o' σ'] [n : New σa i] [k : LeS σa σ] [h : RTs σa s ps] : RTs σ' s ps :=
  ⟨h.rep.mono (fun j o _ ho => (instLeUpd (h := k) (k := instLeRefl) (n := n) (g := g)).keep j o ho) (fun _ _ => trivial)⟩
instance instRTsNGrow {σ₀ σ σ' : Store} {s : AV} {ps : List Tm} [g : Grow σ σ'] [h : RTsN σ₀ σ s ps] : RTsN σ₀ σ' s ps := ⟨h.rep.mono (fun i o _ => g.keep i o) (fun _ h => h)⟩
instance instRTsNUpd {σ₀ σ σ' : Store} {i : Nat} {o o' : Ob} {s : AV} {ps : List Tm} [g : Upd σ i o' σ'] [k : Has σ₀ i o] [h : RTsN σ₀ σ s ps] : RTsN σ₀ σ' s ps :=
  ⟨h.rep.mono (fun j o hj ho => by have := k.lt; rw [g.eq, List.getElem?_set_ne (by omega)]; exact ho) (fun _ h => h)⟩
theorem RTsN.rts {σ₀ σ : Store} {s : AV} {ps : List Tm} (h : RTsN σ₀ σ s ps) : RTs σ s ps := ⟨h.rep.mono (fun _ _ _ h => h) (fun _ _ => trivial)⟩
instance instRTsN {σ₀ σ : Store} {s : AV} {ps : List Tm} [h : RTsN σ₀ σ s ps] : RTs σ s ps := h.rts
theorem RTs.bound {σ : Store} {s : AV} {ps : List Tm} (h : RTs σ s ps) : ps.length ≤ 4294967296 := by cases h.rep <;> simp_all
theorem RTs.one {σ : Store} {s : AV} {ps : List Tm} (h : RTs σ s ps) : One s := by cases h.rep <;> exact ⟨rfl⟩
instance instRTsNil {σ : Store} : RTs σ nilS [] := ⟨.nil⟩

section
variable {E : Env} {ops : Array Oper} {l : List Oper} {Q : Exit → Slots → Store → Prop} {S : Slots} {σ : Store} {d : Option Tmp} {ty : TypeId} {pos : String} {af : Array Edge} {g : Option (Nat × Bool)} {n0 : Nat} {x y : Operand}
theorem po_len_lit {t e : TypeId} {a : Option Addr} {n c : Nat} (hx : S.ev x = some (.lit (.slice a n c))) (ht : E.P.underlying t = some (.slice e)) :
    PO E S σ n0 ⟨d, .call ⟨.builtin .len, #[x], #[t]⟩, ty, pos, af, g⟩ (.lit (.int .i64 (n : Int))) := by
  intro A w ρ W0 hw hag hn
  have e1 := R_lit (hw.ev hx)
  refine ⟨_, .lit _, fun w' _ => ?_⟩
  simp [execOp, resolve, invoke, builtin, Builtin.len_, e1, underlying, ht, goInt]
/-- How many parts there are. -/
theorem pc_lenT {t e : TypeId} {s : AV} {ps : List Tm} (hx : S.ev x = some s) (h : RTs σ s ps) (ht : Un E.P t (.slice e)) :
    PO E S σ n0 ⟨d, .call ⟨.builtin .len, #[x], #[t]⟩, ty, pos, af, g⟩ (I ps.length) := by
  cases h.rep with
  | nil => exact po_len_lit hx ht.eq
  | row => exact po_len (ri := 0) hx ht.eq
end
/-- A part. -/
theorem RTs.part {σ : Store} {s : AV} {ps : List Tm} (h : RTs σ s ps) {k : Nat} (hk : k < ps.length) :
    ∃ id off s', s = .sl id off ps.length ∧ At σ id (off + k * 3) 3 [I ps[k].op, I ps[k].n, s'] ∧ RTs σ s' ps[k].ps := by
  cases h.rep with
  | nil => simp at hk
  | @row id off o _ ss h1 h2 h3 h4 h45 h5 h6 h9 =>
    have h7 := h6 k ps[k] ss[k] (by simp [hk]) (by simp [h5, hk])
    have h8 := h9 k ps[k] ss[k] (by simp [hk]) (by simp [h5, hk])
    exact ⟨id, off, ss[k], rfl, ⟨o, h2, h3, h7, rfl⟩, ⟨h8⟩⟩
/-- A copy: in new objects. -/
def RetTm (σ : Store) (t : Tm) : AV → Store → Prop := fun r σ' => ∃ s, r = .agg [I t.op, I t.n, s] ∧ RTsN σ σ' s t.ps ∧ Grow σ σ'
def RetTms (σ : Store) (ps : List Tm) : AV → Store → Prop := fun r σ' => RTsN σ σ' r ps ∧ Grow σ σ'
theorem RTsN.down {σ σ₁ σ' : Store} {ps : List Tm} {s : AV} (h : RTsN σ₁ σ' s ps) (k : LeS σ σ₁) : RTsN σ σ' s ps := ⟨h.rep.mono (fun _ _ _ h => h) (fun _ hi => Nat.le_trans k.len hi)⟩
theorem RTsN.down' {σ σ₁ σ' : Store} {ps : List Tm} {s : AV} (h : RTsN σ₁ σ' s ps) (k : σ.length ≤ σ₁.length) : RTsN σ σ' s ps := ⟨h.rep.mono (fun _ _ _ h => h) (fun _ hi => Nat.le_trans k hi)⟩
theorem Upd.len {σ σ' : Store} {i : Nat} {o : Ob} (h : Upd σ i o σ') : σ'.length = σ.length := by rw [h.eq]; simp
theorem ret_tm {σ σ₁ σ' : Store} {op n : Int} {ps : List Tm} {s : AV} (h : RTsN σ₁ σ' s ps) (k : LeS σ σ₁) (g : LeS σ σ') : RetTm σ (.node op n ps) (.agg [I op, I n, s]) σ' := ⟨s, rfl, h.down k, g.grow⟩
section
variable {E : Env} {ops : Array Oper} {l : List Oper} {Q : Exit → Slots → Store → Prop} {S : Slots} {σ : Store} {d : Option Tmp} {ty : TypeId} {pos : String} {af : Array Edge} {x y : Operand}
theorem wc_callT {args : Array Operand} {ats : Array TypeId} {f : FuncId} {rs caps : List AV} {t : Tm} (hf : S.ev x = some (.fn f caps)) (hc : Callable E.P f) (hargs : evs S args.toList = some rs)
    (h : ACall E.P E.base f (rs ++ caps) σ (fun _ => False) (RetTm σ t)) (hd : okd E d = true) (k : ∀ s σ', One s → RTsN σ σ' s t.ps → Grow σ σ' → WL E ops l Q (S.put d (.agg [I t.op, I t.n, s])) σ') :
    WL E ops (⟨d, .call ⟨.value x, args, ats⟩, ty, pos, af, none⟩ :: l) Q S σ :=
  wc_call hf hc hargs h hd fun r' σ' h => by obtain ⟨s, e, hr, hg⟩ := h; subst e; exact k s σ' hr.rts.one hr hg
theorem wc_callTs {args : Array Operand} {ats : Array TypeId} {f : FuncId} {rs caps : List AV} {ps : List Tm} (hf : S.ev x = some (.fn f caps)) (hc : Callable E.P f) (hargs : evs S args.toList = some rs)
    (h : ACall E.P E.base f (rs ++ caps) σ (fun _ => False) (RetTms σ ps)) (hd : okd E d = true) (k : ∀ s σ', One s → RTsN σ σ' s ps → Grow σ σ' → WL E ops l Q (S.put d s) σ') :
    WL E ops (⟨d, .call ⟨.value x, args, ats⟩, ty, pos, af, none⟩ :: l) Q S σ :=
  wc_call hf hc hargs h hd fun r' σ' h => by obtain ⟨hr, hg⟩ := h; exact k r' σ' hr.rts.one hr hg
end

theorem da_callT {E : Env} {ops : Array Oper} {ds : List Nat} {fuel n0 : Nat} {listed : Array Bool} {Q : Exit → Slots → Store → Prop} {S : Slots} {σ : Store} {d : Option Tmp} {ty : TypeId} {pos : String} {af : Array Edge} {x : Operand} (i : Nat) {args : Array Operand} {ats : Array TypeId} {f : FuncId} {rs caps : List AV} {t : Tm} (ho : ops[i]? = some ⟨d, .call ⟨.value x, args, ats⟩, ty, pos, af, none⟩) (hr : Region.ready .any ops listed = [i]) (hf : S.ev x = some (.fn f caps)) (hc : Callable E.P f) (hargs : evs S args.toList = some rs)
    (h : ACall E.P E.base f (rs ++ caps) σ (fun _ => False) (RetTm σ t)) (hd : okd E d = true) (k : ∀ s σ', One s → RTsN σ σ' s t.ps → Grow σ σ' → DA E ops ds fuel (listed.setIfInBounds i true) Q n0 (S.put d (.agg [I t.op, I t.n, s])) σ') :
    DA E ops ds (fuel + 1) listed Q n0 S σ :=
  da_call i ho hr hf hc hargs h hd fun r σ' hK => by
    obtain ⟨s, e, hr, hg⟩ := hK
    subst e
    exact ⟨hg.len, k s σ' hr.rts.one hr hg⟩
theorem da_callTs {E : Env} {ops : Array Oper} {ds : List Nat} {fuel n0 : Nat} {listed : Array Bool} {Q : Exit → Slots → Store → Prop} {S : Slots} {σ : Store} {d : Option Tmp} {ty : TypeId} {pos : String} {af : Array Edge} {x : Operand} (i : Nat) {args : Array Operand} {ats : Array TypeId} {f : FuncId} {rs caps : List AV} {ps : List Tm} (ho : ops[i]? = some ⟨d, .call ⟨.value x, args, ats⟩, ty, pos, af, none⟩) (hr : Region.ready .any ops listed = [i]) (hf : S.ev x = some (.fn f caps)) (hc : Callable E.P f) (hargs : evs S args.toList = some rs)
    (h : ACall E.P E.base f (rs ++ caps) σ (fun _ => False) (RetTms σ ps)) (hd : okd E d = true) (k : ∀ s σ', One s → RTsN σ σ' s ps → Grow σ σ' → DA E ops ds fuel (listed.setIfInBounds i true) Q n0 (S.put d s) σ') :
    DA E ops ds (fuel + 1) listed Q n0 S σ :=
  da_call i ho hr hf hc hargs h hd fun r σ' hK => ⟨hK.2.len, k r σ' hK.1.rts.one hK.1 hK.2⟩
end Go.Proofs.Ytcmkkmlgdkhmiaa.Asl
