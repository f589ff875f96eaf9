/- The program logic's rules for operations that only compute. -/
import Derived.Test.YtemhpkfijoodkaaA0
namespace Go.Proofs.Ytemhpkfijoodkaa.Asl
open Go.RowKit
set_option linter.unusedVariables false
set_option linter.unusedSimpArgs false

theorem lookup_cons_eq {t : Nat} {v : AV} {S : Slots} : Slots.get ((t, v) :: S) t = some v := by simp [Slots.get]
theorem lookup_cons_ne {t d : Nat} {v : AV} {S : Slots} (h : t ≠ d) : Slots.get ((d, v) :: S) t = Slots.get S t := by
  have e : (t == d) = false := by simpa using h
  simp [Slots.get, List.lookup_cons, e]

def okd (E : Env) : Option Tmp → Bool
  | some d => Nat.ble (d + 1) E.n
  | none => true

theorem Ctx.put {E : Env} {S : Slots} {σ : Store} {a : Act} {w : World} {ρ : Pl} (h : Ctx E S σ a w ρ) {d : Option Tmp} {r : AV} {u : Value} (hd : okd E d = true) (hr : R ρ r u) :
    Ctx E (S.put d r) σ (a.put d u) w ρ := by
  cases d with
  | none => exact h
  | some d =>
    have hd' : d < a.tmps.size := by rw [h.size]; exact Nat.le_of_ble_eq_true hd
    refine { h with defers := h.defers, size := by simp [Act.put, h.size], slots := ?_ }
    intro t v ht
    by_cases e : t = d
    · subst e
      rw [Slots.put, lookup_cons_eq] at ht
      cases ht
      exact ⟨u, by simp [Act.put, hd'], hr⟩
    · rw [Slots.put, lookup_cons_ne e] at ht
      obtain ⟨u', h1, h2⟩ := h.slots t v ht
      exact ⟨u', by simp only [Act.put]; rw [Array.getElem?_setIfInBounds_ne (Ne.symm e)]; exact h1, h2⟩

theorem Ctx.ev {E : Env} {S : Slots} {σ : Store} {a : Act} {w : World} {ρ : Pl} (h : Ctx E S σ a w ρ) {x : Operand} {r : AV} (hx : S.ev x = some r) : R ρ r (a.eval x) := by
  cases x with
  | tmp t =>
    obtain ⟨u, h1, h2⟩ := h.slots t r hx
    have : a.eval (.tmp t) = u := by simp [Act.eval, Array.getD_eq_getD_getElem?, h1]
    rw [this]; exact h2
  | const v => cases hx; exact .lit v
  | func f => cases hx; exact .fn .nil
  | global g => cases hx

/-- Less known of the slots. -/
def Sub (S S' : Slots) : Prop := ∀ t v, S.get t = some v → S'.get t = some v
theorem Ctx.less {E : Env} {S S' : Slots} {σ : Store} {a : Act} {w : World} {ρ : Pl} (h : Ctx E S' σ a w ρ) (hs : Sub S S') : Ctx E S σ a w ρ :=
  { h with slots := fun t v ht => h.slots t v (hs t v ht) }

def wpOpsL (P : Program) (ops : Array Oper) (Q : Exit → Act → World → Prop) : List Oper → Act → World → Prop
  | [], a, w => Q .normal a w
  | o :: rest, a, w =>
    if Region.wanted o (yielded ops a.tmps) then o.wp P a w (wpOpsL P ops Q rest) Q
    else wpOpsL P ops Q rest (a.put o.dst undef) w

theorem wpOps_of_L {P : Program} {ops : Array Oper} {Q : Exit → Act → World → Prop} : ∀ (l : List Oper) (is : List Nat) (a : Act) (w : World),
    is.map (ops[·]?) = l.map some → wpOpsL P ops Q l a w → wpOps P ops Q is a w
  | [], is, a, w, hi, h => by
    cases is with
    | nil => exact h
    | cons i is => simp at hi
  | o :: l, is, a, w, hi, h => by
    cases is with
    | nil => simp at hi
    | cons i is =>
      simp only [List.map_cons, List.cons.injEq] at hi
      obtain ⟨h1, h2⟩ := hi
      simp only [wpOps, h1]
      simp only [wpOpsL] at h
      by_cases hw : Region.wanted o (yielded ops a.tmps) = true
      · rw [if_pos hw] at h ⊢
        refine .inl ?_
        unfold Oper.wp at h ⊢
        generalize (execOp a.eval o).run P w = r at h ⊢
        have key : ∀ a w, wpOpsL P ops Q l a w → wpOps P ops Q is a w := fun a w => wpOps_of_L l is a w h2
        revert h
        unfold Oper.upon
        split <;> intro h
        · exact key _ _ h
        · exact key _ _ h
        · exact key _ _ h
        · refine Calls.mono h ?_
          intro e w' he
          cases e with
          | returned v => exact key _ _ he
          | panicked c => exact he
          | outgrown => exact he
        · exact Rows.mono h fun v w' hv => key _ _ hv
        · exact h
        · exact h
      · rw [if_neg hw] at h ⊢
        exact wpOps_of_L l is _ _ h2 h

theorem range_map {ops : Array Oper} : (List.range ops.size).map (ops[·]?) = ops.toList.map some := by
  apply List.ext_getElem?
  intro i
  by_cases h : i < ops.size
  · simp [h]
  · simp [h]

/-- Operations one behind another. -/
def WL (E : Env) (ops : Array Oper) (l : List Oper) (Q : Exit → Slots → Store → Prop) (S : Slots) (σ : Store) : Prop :=
  ∀ a w ρ, Ctx E S σ a w ρ → wpOpsL E.P ops (lift E Q) l a w

theorem wp_region_seq {E : Env} {id : Nat} {ops : Array Oper} {Q : Exit → Slots → Store → Prop} {S : Slots} {σ : Store} (h : WL E ops ops.toList Q S σ) : WP E (.region id ops false) Q S σ :=
  fun a w ρ hc => wp_region (wpOps_of_L _ _ _ _ range_map (h a w ρ hc))
theorem wl_nil {E : Env} {ops : Array Oper} {Q : Exit → Slots → Store → Prop} {S : Slots} {σ : Store} (h : Q .normal S σ) : WL E ops [] Q S σ := fun _ _ ρ hc => ⟨S, σ, ρ, h, hc⟩

section
variable {E : Env} {ops : Array Oper} {l : List Oper} {Q : Exit → Slots → Store → Prop} {S : Slots} {σ : Store}

/-- An operation that answers a value. -/
theorem wl_value {o : Oper} (hg : o.guard = none) (hd : okd E o.dst = true)
    (h : ∀ a w ρ, Ctx E S σ a w ρ → ∃ u w' r σ' ρ', (execOp a.eval o).run E.P w = .ok (.value u) w' ∧ R ρ' r u ∧ Ctx E S σ' a w' ρ' ∧ WL E ops l Q (S.put o.dst r) σ') :
    WL E ops (o :: l) Q S σ := by
  intro a w ρ hc
  obtain ⟨u, w', r, σ', ρ', h1, h2, h3, h4⟩ := h a w ρ hc
  simp only [wpOpsL, Region.wanted, hg, if_true, Oper.wp, h1, Oper.upon]
  exact h4 _ _ _ (h3.put hd h2)

/-- A later world that leaves what was as it was. -/
structure Agree (w w' : World) : Prop where
  size : w.heap.size ≤ w'.heap.size
  block : ∀ k, k < w.heap.size → w'.heap[k]? = w.heap[k]?
theorem Agree.refl (w : World) : Agree w w := ⟨Nat.le_refl _, fun _ _ => rfl⟩
theorem Agree.trans {a b c : World} (h : Agree a b) (k : Agree b c) : Agree a c :=
  ⟨Nat.le_trans h.size k.size, fun i hi => (k.block i (Nat.lt_of_lt_of_le hi h.size)).trans (h.block i hi)⟩
theorem Agree.cell {w w' : World} (h : Agree w w') {a : Addr} (ha : a.block < w.heap.size) : w'.cell? a = w.cell? a := World.cell?_of_block (w := w) (h.block a.block ha)

/-- An operation that only computes, or reads objects that stood when there were n0 of them: in every world that agrees with the one of then. -/
def PO (E : Env) (S : Slots) (σ : Store) (n0 : Nat) (o : Oper) (r : AV) : Prop :=
  ∀ a w ρ W0, Ctx E S σ a w ρ → Agree W0 w → (∀ id p, ρ id = some p → id < n0 → p.blk < W0.heap.size) → ∃ u, R ρ r u ∧ ∀ w', Agree W0 w' → (execOp a.eval o).run E.P w' = .ok (.value u) w'

theorem wl_po {o : Oper} {r : AV} (hg : o.guard = none) (hd : okd E o.dst = true) (h : PO E S σ σ.length o r) (k : WL E ops l Q (S.put o.dst r) σ) : WL E ops (o :: l) Q S σ :=
  wl_value hg hd fun a w ρ hc =>
    let ⟨u, h1, h2⟩ := h a w ρ w hc (Agree.refl w) (fun id p hp _ => hc.sim.size id p hp)
    ⟨u, w, r, σ, ρ, h2 w (Agree.refl w), h1, hc, k⟩

variable {d : Option Tmp} {ty : TypeId} {pos : String} {af : Array Edge} {g : Option (Nat × Bool)} {n0 : Nat}

theorem po_move {x : Operand} {r : AV} (hx : S.ev x = some r) : PO E S σ n0 ⟨d, .move x, ty, pos, af, g⟩ r :=
  fun a w ρ W0 hc _ _ => ⟨_, hc.ev hx, fun _ _ => rfl⟩
theorem po_assign {x : Operand} {r : AV} (hx : S.ev x = some r) : PO E S σ n0 ⟨d, .assign x, ty, pos, af, g⟩ r :=
  fun a w ρ W0 hc _ _ => ⟨_, hc.ev hx, fun _ _ => rfl⟩

theorem R_lit {ρ : Pl} {v u : Value} (h : R ρ (.lit v) u) : u = v := by cases h; rfl

/-- What an operator answers on two plain values, where it always answers. -/
def binLit : BinOp → Value → Value → Option Value
  | op, .int k a, .int k' b =>
    if k ≠ k' then none else
    match op with
    | .add => some (.int k (k.wrap (a + b)))
    | .sub => some (.int k (k.wrap (a - b)))
    | .mul => some (.int k (k.wrap (a * b)))
    | .eql => some (.bool (a == b))
    | .neq => some (.bool (a != b))
    | .lss => some (.bool (decide (a < b)))
    | .leq => some (.bool (decide (a ≤ b)))
    | .gtr => some (.bool (decide (a > b)))
    | .geq => some (.bool (decide (a ≥ b)))
    | .and | .or | .xor | .andNot => some (.int k (bits op k a b))
    | _ => none
  | op, .string a, .string b =>
    match op with
    | .eql => some (.bool (a.toList == b.toList))
    | .neq => some (.bool !(a.toList == b.toList))
    | _ => none
  | _, _, _ => none

theorem run_binLit {P : Program} {w : World} {op : BinOp} {t : TypeId} {x y : Operand} {a b z : Value} (h : binLit op a b = some z) :
    (do eqGuard op t x y a b; binOp op t a b : Sem Value).run P w = .ok z w := by
  unfold binLit at h
  split at h
  · rename_i k m k' n
    split at h
    · cases h
    · rename_i hk
      obtain rfl : k = k' := by simpa using hk
      cases op <;> simp at h <;> subst h <;> simp [eqGuard, binOp, Op.intArith, Op.intCmp, Op.intBits, Sem.run, bind, Sem.bind, pure, Go.bits]
  · cases op <;> simp at h <;> subst h <;> simp [eqGuard, binOp, Op.stringOp, Sem.run, bind, Sem.bind, pure]
  · cases h
end
end Go.Proofs.Ytemhpkfijoodkaa.Asl
