/- More rules: arrays, calls that write one object, regions that draw and write last. -/
import Derived.Test.YtemhpkfijoodkaaB1
namespace Go.Proofs.Ytemhpkfijoodkaa.Asl
open Go.RowKit Go.Proofs.YtemhpkfijoodkaaW.PrintLast
set_option linter.unusedVariables false
set_option linter.unusedSimpArgs false

section
variable {E : Env} {ops : Array Oper} {l : List Oper} {Q : Exit → Slots → Store → Prop} {S : Slots} {σ : Store} {d : Option Tmp} {ty : TypeId} {pos : String} {af : Array Edge} {g : Option (Nat × Bool)} {n0 : Nat} {x y : Operand}

theorem pc_neg {xt : TypeId} {a : Int} (hx : S.ev x = some (I a)) (h0 : -9223372036854775807 ≤ a) (h1 : a ≤ 9223372036854775807) : PO E S σ n0 ⟨d, .unOp .neg xt x, ty, pos, af, g⟩ (I (-a)) := by
  have := po_neg (E := E) (σ := σ) (n0 := n0) (d := d) (ty := ty) (pos := pos) (af := af) (g := g) (xt := xt) hx
  rwa [wrap64 (by omega) (by omega), Int.zero_sub] at this
/-- An array of zeros that is written down. -/
theorem pc_buildZ {t e : TypeId} {n : Nat} {size bytes : Nat} {z : Value} {ea : Bool} {es eb : Nat} {ez : Value} {cs : List AV} (ht : Ty E.P t true size bytes z) (hu : Un E.P t (.array n e)) (he : Ty E.P e ea es eb ez) (hcs : z.cells.toList.map .lit = cs) :
    PO E S σ n0 ⟨d, .build t #[], ty, pos, af, g⟩ (.agg cs) := by
  intro a w ρ W0 hw hag hn
  refine ⟨.agg z.cells, ?_, fun w' _ => ?_⟩
  · subst hcs; simpa using R.agg (Rs.lits ρ z.cells.toList)
  · simp [execOp, Instr.build, ht.zeroValue, underlying, hu.eq, he.sizeOf, Instr.fill]
/-- An element of an array. -/
theorem pc_indexArr {t e : TypeId} {n : Nat} {bytes : Nat} {z : Value} {cs : List AV} {i : Nat} {c : AV} (hx : S.ev x = some (.agg cs)) (hy : S.ev y = some (I (i : Int))) (hu : Un E.P t (.array n e)) (he : Ty E.P e false 1 bytes z) (hi : i < n) (hc : cs[i]? = some c) :
    PO E S σ n0 ⟨d, .index t x y, ty, pos, af, g⟩ c := by
  intro a w ρ W0 hw hag hn
  have e1 := hw.ev hx
  have e2 := R_lit (hw.ev hy)
  generalize hv : a.eval x = v at e1
  cases e1 with
  | agg h =>
    obtain ⟨u, h1, h2⟩ := h.get i c hc
    refine ⟨u, h2, fun w' _ => ?_⟩
    have hi' : (i : Int) < (n : Int) := by omega
    simp [execOp, hv, e2, Instr.index, asIntOf, underlying, hu.eq, hi', he.sizeOf, part, he.isAgg, h1]
    omega
/-- The address of an array's element. -/
theorem pc_indexAddrArr {t e : TypeId} {id off n : Nat} {i : Nat} {agg : Bool} {size bytes : Nat} {z : Value} (hx : S.ev x = some (.pt id off)) (hy : S.ev y = some (I (i : Int))) (hu : Un E.P t (.array n e)) (he : Ty E.P e agg size bytes z) (hi : i < n) :
    PO E S σ n0 ⟨d, .indexAddr t x y, ty, pos, af, g⟩ (.pt id (off + i * size)) := by
  intro a w ρ W0 hw hag hn
  have e1 := hw.ev hx
  have e2 := R_lit (hw.ev hy)
  generalize hv : a.eval x = v at e1
  cases e1 with
  | @pt _ _ p hp =>
    refine ⟨.pointer (some ⟨p.blk, p.off + off + i * size, none⟩), by rw [Nat.add_assoc]; exact .pt hp, fun w' _ => ?_⟩
    have hi' : (i : Int) < (n : Int) := by omega
    simp only [execOp, hv, e2, Instr.indexAt, asIntOf, underlying, Sem.run_bind, run_program, Result.andThen_ok, hu.eq, Sem.run_pure, Instr.sureAddr, he.sizeOf, addr_add]
    rw [if_pos ⟨by omega, hi'⟩]
    simp only [Sem.run_bind, he.sizeOf, Result.andThen_ok, Sem.run_pure, addr_add, Int.toNat_natCast]
end

theorem hold_go {p : Prop} (h : p) : Hold p := h
theorem wc_holdR (id : Nat) {E : Env} {Q R : Exit → Slots → Store → Prop} {S : Slots} {σ : Store} {ops : Array Oper} {b : Bool} {y : Code} (h : Hold (WP E (.region id ops b) (andThen (WP E y Q) R) S σ)) : WP E (.region id ops b) (andThen (WP E y Q) R) S σ := h

/-- What a call leaves that may write one object. -/
structure LeX (i : Nat) (σ σ' : Store) : Prop where
  keep : ∀ (j : Nat) (o : Ob), j ≠ i → σ[j]? = some o → σ'[j]? = some o
def RetUpd (σ : Store) (i : Nat) (r : AV) (o' : Ob) : AV → Store → Prop := fun r' σ' => r' = r ∧ Has σ' i o' ∧ LeX i σ σ'
theorem LeX.split {i : Nat} {σ σ' : Store} {o o' : Ob} (h : LeX i σ σ') (ho : Has σ i o) (ho' : Has σ' i o') : ∃ σ₁, Grow σ σ₁ ∧ Upd σ₁ i o' σ' := by
  have hlt := ho'.lt
  refine ⟨σ'.set i o, ⟨fun j x hj => ?_⟩, by simpa using hlt, ?_⟩
  · by_cases e : j = i
    · subst e
      have := ho.get
      rw [this] at hj; cases hj
      simp [hlt]
    · rw [List.getElem?_set_ne (Ne.symm e)]
      exact h.keep j x e hj
  · apply List.ext_getElem?
    intro j
    rw [List.set_set]
    by_cases e : j = i
    · subst e; rw [ho'.get]; simp [hlt]
    · rw [List.getElem?_set_ne (Ne.symm e)]
theorem LeX.refl (i : Nat) (σ : Store) : LeX i σ σ := ⟨fun _ _ _ h => h⟩
theorem LeX.grow {i : Nat} {σ₀ σ σ' : Store} (h : LeX i σ₀ σ) (g : Grow σ σ') : LeX i σ₀ σ' := ⟨fun j o hj ho => g.keep j o (h.keep j o hj ho)⟩
theorem LeX.les {i : Nat} {σ₀ σ σ' : Store} (h : LeX i σ₀ σ) (g : LeS σ σ') : LeX i σ₀ σ' := ⟨fun j o hj ho => g.keep j o (h.keep j o hj ho)⟩
theorem LeX.upd {i : Nat} {σ₀ σ σ' : Store} {o : Ob} (h : LeX i σ₀ σ) (g : Upd σ i o σ') : LeX i σ₀ σ' := ⟨fun j x hj ho => by rw [g.eq, List.getElem?_set_ne (Ne.symm hj)]; exact h.keep j x hj ho⟩
theorem LeX.updNew {i k : Nat} {σ₀ σ σ' : Store} {o : Ob} (h : LeX i σ₀ σ) (g : Upd σ k o σ') (n : σ₀.length ≤ k) : LeX i σ₀ σ' := ⟨fun j x hj ho => by
  have : j < σ₀.length := Has.lt ⟨ho⟩
  rw [g.eq, List.getElem?_set_ne (by omega)]; exact h.keep j x hj ho⟩
section
variable {E : Env} {ops : Array Oper} {l : List Oper} {Q : Exit → Slots → Store → Prop} {S : Slots} {σ : Store} {d : Option Tmp} {ty : TypeId} {pos : String} {af : Array Edge} {g : Option (Nat × Bool)} {n0 : Nat} {x y : Operand}
theorem wc_callU {args : Array Operand} {ats : Array TypeId} {f : FuncId} {rs caps : List AV} {i e : Nat} {cs : List AV} {r : AV} {o' : Ob} (hf : S.ev x = some (.fn f caps)) (hc : Callable E.P f) (hargs : evs S args.toList = some rs)
    (h : ACall E.P E.base f (rs ++ caps) σ (fun j => j = i) (RetUpd σ i r o')) (ho : Has σ i ⟨.own, e, cs, []⟩) (hm : E.may i) (hd : okd E d = true) (k : ∀ σ₁ σ', Grow σ σ₁ → Upd σ₁ i o' σ' → WL E ops l Q (S.put d r) σ') :
    WL E ops (⟨d, .call ⟨.value x, args, ats⟩, ty, pos, af, none⟩ :: l) Q S σ :=
  wl_call hf hc hargs h (fun j hj => by subst hj; exact ⟨hm, _, ho.get, .inl rfl⟩) hd fun r' σ' hK => by
    obtain ⟨h1, h2, h3⟩ := hK
    subst h1
    obtain ⟨σ₁, g1, u1⟩ := h3.split ho h2
    exact k σ₁ σ' g1 u1

variable {ds : List Nat} {fuel : Nat} {listed : Array Bool}
/-- The last operation of a region that draws writes one cell. -/
theorem da_store1 (i : Nat) {t : TypeId} {bytes : Nat} {z : Value} {id off e : Nat} {l' : List AV} {v : AV} (ho : ops[i]? = some ⟨none, .store t x y, ty, pos, af, none⟩) (hi : i ∈ ds) (hr : Region.ready .any ops listed = [i]) (hx : S.ev x = some (.pt id off)) (hy : S.ev y = some v) (ht : Ty E.P t false 1 bytes z) (hh : Has σ id ⟨.own, e, l', []⟩)
    (h1 : One v) (hoff : off + 1 ≤ l'.length) (hm : E.may id)
    (k : ∀ σ', Upd σ id ⟨.own, e, splice l' off [v], []⟩ σ' → DL E ops ds fuel (listed.setIfInBounds i true) Q S σ') : DA E ops ds (fuel + 1) listed Q n0 S σ :=
  (dl_step i _ ho hi hr rfl (wc_store1 hx hy ht hh h1 hoff hm fun σ' hu => wl_nil ⟨rfl, k σ' hu⟩)).da
end
end Go.Proofs.Ytemhpkfijoodkaa.Asl
