/- Several texts in one. -/
import Derived.WalkKit
import Derived.Below
import Derived.KernelRfl
import Derived.Laws.Append
import Derived.Great.FillDense
import Derived.Deep.LoopGhost
import Derived.Scope
import Derived.Test.YthbodgnoadlbcaaDoorWLast
/- A program logic over the model with an abstract store: values, the store, how they are laid in a world. -/
namespace Go.Proofs.YthbodgnoadlbcaaDoor.Asl
open Go.RowKit

/-- Abstract values. A slice names an object, the cell at which it begins and how many elements it has. -/
inductive AV where
  | lit (v : Value)
  | sl (id off len : Nat)
  | pt (id off : Nat)
  | fn (f : FuncId) (caps : List AV)
  | mp (id : Nat)
  | agg (l : List AV)
  | tup (l : List AV)
instance : Inhabited AV := ⟨.lit undef⟩

/-- Where an object lies: its block, where in it, how many cells the block has from there on, how many cells an element has; is it one that may be written. -/
structure Place where
  blk : Nat
  off : Nat
  room : Nat
  esz : Nat
  own : Bool

abbrev Pl := Nat → Option Place

mutual
/-- A value stands for an abstract one. -/
inductive R (ρ : Pl) : AV → Value → Prop
  | lit (v : Value) : R ρ (.lit v) v
  | sl {id off len cap : Nat} {p : Place} : ρ id = some p → len ≤ cap → off + cap * p.esz ≤ p.room → R ρ (.sl id off len) (.slice (some ⟨p.blk, p.off + off, none⟩) len cap)
  | pt {id off : Nat} {p : Place} : ρ id = some p → R ρ (.pt id off) (.pointer (some ⟨p.blk, p.off + off, none⟩))
  | fn {f : FuncId} {caps : List AV} {cs : List Value} : Rs ρ caps cs → R ρ (.fn f caps) (.func (.func f) #[] cs.toArray)
  | mp {id : Nat} {p : Place} : ρ id = some p → R ρ (.mp id) (.map (some p.blk))
  | agg {l : List AV} {cs : List Value} : Rs ρ l cs → R ρ (.agg l) (.agg cs.toArray)
  | tup {l : List AV} {cs : List Value} : Rs ρ l cs → R ρ (.tup l) (.tuple cs.toArray)
inductive Rs (ρ : Pl) : List AV → List Value → Prop
  | nil : Rs ρ [] []
  | cons {x : AV} {v : Value} {xs : List AV} {vs : List Value} : R ρ x v → Rs ρ xs vs → Rs ρ (x :: xs) (v :: vs)
end

/-- More places. -/
def Le (ρ ρ' : Pl) : Prop := ∀ id p, ρ id = some p → ρ' id = some p
theorem Le.refl (ρ : Pl) : Le ρ ρ := fun _ _ h => h
theorem Le.trans {a b c : Pl} (h : Le a b) (k : Le b c) : Le a c := fun i p hp => k i p (h i p hp)

mutual
theorem R.mono {ρ ρ' : Pl} (hl : Le ρ ρ') {x : AV} {v : Value} (h : R ρ x v) : R ρ' x v :=
  match h with
  | .lit v => .lit v
  | .sl h1 h2 h3 => .sl (hl _ _ h1) h2 h3
  | .pt h1 => .pt (hl _ _ h1)
  | .fn h1 => .fn (Rs.mono hl h1)
  | .mp h1 => .mp (hl _ _ h1)
  | .agg h1 => .agg (Rs.mono hl h1)
  | .tup h1 => .tup (Rs.mono hl h1)
theorem Rs.mono {ρ ρ' : Pl} (hl : Le ρ ρ') {x : List AV} {v : List Value} (h : Rs ρ x v) : Rs ρ' x v :=
  match h with
  | .nil => .nil
  | .cons h1 h2 => .cons (R.mono hl h1) (Rs.mono hl h2)
end

theorem Rs.length {ρ : Pl} {xs : List AV} {vs : List Value} (h : Rs ρ xs vs) : xs.length = vs.length := by
  induction xs generalizing vs with
  | nil => cases h; rfl
  | cons x xs ih => cases h with | cons h1 h2 => simp [ih h2]
theorem Rs.get {ρ : Pl} {xs : List AV} {vs : List Value} (h : Rs ρ xs vs) (i : Nat) (x : AV) (hx : xs[i]? = some x) : ∃ v, vs[i]? = some v ∧ R ρ x v := by
  induction xs generalizing vs i with
  | nil => simp at hx
  | cons y ys ih =>
    cases h with
    | cons h1 h2 =>
      cases i with
      | zero => simp at hx; subst hx; exact ⟨_, rfl, h1⟩
      | succ i => simpa using ih h2 i (by simpa using hx)
theorem Rs.append {ρ : Pl} {xs ys : List AV} {vs us : List Value} (h : Rs ρ xs vs) (k : Rs ρ ys us) : Rs ρ (xs ++ ys) (vs ++ us) := by
  induction xs generalizing vs with
  | nil => cases h; exact k
  | cons x xs ih => cases h with | cons h1 h2 => exact .cons h1 (ih h2)
theorem Rs.of_get {ρ : Pl} {xs : List AV} {vs : List Value} (hl : xs.length = vs.length) (h : ∀ (i : Nat) x, xs[i]? = some x → ∃ v, vs[i]? = some v ∧ R ρ x v) : Rs ρ xs vs := by
  induction xs generalizing vs with
  | nil => cases vs with | nil => exact .nil | cons _ _ => simp at hl
  | cons x xs ih =>
    cases vs with
    | nil => simp at hl
    | cons v vs =>
      obtain ⟨u, h1, h2⟩ := h 0 x rfl
      simp at h1; subst h1
      exact .cons h2 (ih (by simpa using hl) fun i y hy => by simpa using h (i + 1) y (by simpa using hy))

/-- A value that fills one cell. -/
def AV.one : AV → Bool
  | .lit (.agg _) | .lit (.tuple _) | .agg _ | .tup _ => false
  | _ => true
/-- The cells that a value fills. -/
def AV.cells : AV → List AV
  | .agg l => l
  | .lit (.agg a) => a.toList.map .lit
  | v => [v]

inductive Kind | ro | own | dead | map
  deriving DecidableEq

/-- An object of the store. -/
structure Ob where
  kind : Kind
  esz : Nat
  cells : List AV
  ents : List (Value × AV) := []

abbrev Store := List Ob

/-- An object and what it stands for. -/
def ObRel (base : Nat) (ρ : Pl) (o : Ob) (p : Place) (w : World) : Prop :=
  match o.kind with
  | .dead => True
  | .ro => p.own = false ∧ p.esz = o.esz ∧ p.blk < base ∧ ∀ (i : Nat) (c : AV), o.cells[i]? = some c → c.one = true ∧ ∃ u, w.cell? ⟨p.blk, p.off + i, none⟩ = some u ∧ R ρ c u
  | .own => p.own = true ∧ p.esz = o.esz ∧ base ≤ p.blk ∧ p.off = 0 ∧ ∃ (cs : Array Value) (ty : TypeId), w.heap[p.blk]? = some (.cells cs ty (0, 0)) ∧ p.room = cs.size ∧ o.cells.length ≤ cs.size ∧ ∀ (i : Nat) (c : AV), o.cells[i]? = some c → c.one = true ∧ ∃ u : Value, cs[i]? = some u ∧ R ρ c u
  | .map => p.own = true ∧ base ≤ p.blk ∧ ∃ (es : Array MapEntry) (clock : Nat), w.heap[p.blk]? = some (.map es clock) ∧ es.size = o.ents.length ∧ ∀ (i : Nat) (k : Value) (c : AV), o.ents[i]? = some (k, c) → ∃ e : MapEntry, es[i]? = some e ∧ e.key = k ∧ R ρ c e.val

def Ob.live (o : Ob) : Prop := o.kind = .own ∨ o.kind = .map

structure Sim (base : Nat) (ρ : Pl) (σ : Store) (w : World) : Prop where
  dom : ∀ id p, ρ id = some p → id < σ.length
  obs : ∀ (id : Nat) (o : Ob) (p : Place), σ[id]? = some o → ρ id = some p → ObRel base ρ o p w
  inj : ∀ (i j : Nat) (o o' : Ob) (p p' : Place), σ[i]? = some o → σ[j]? = some o' → o.live → o'.live → ρ i = some p → ρ j = some p' → p.blk = p'.blk → i = j
  size : ∀ id p, ρ id = some p → p.blk < w.heap.size
  le : base ≤ w.heap.size

/-- Slots that are known. -/
abbrev Slots := List (Nat × AV)
def Slots.get (S : Slots) (t : Nat) : Option AV := S.lookup t
def Slots.put (S : Slots) (d : Option Tmp) (v : AV) : Slots :=
  match d with
  | some d => (d, v) :: S
  | none => S
def SlotsR (ρ : Pl) (S : Slots) (tmps : Array Value) : Prop := ∀ t v, S.get t = some v → ∃ u : Value, tmps[t]? = some u ∧ R ρ v u

def Slots.ev (S : Slots) : Operand → Option AV
  | .tmp t => S.get t
  | .const v => some (.lit v)
  | .func f => some (.fn f [])
  | .global _ => none

/-- What stays the same over a run: all blocks below N but for those of B. -/
structure Fr (N : Nat) (B : Nat → Prop) (w w' : World) : Prop where
  os : w'.os = w.os
  tape : w'.tape = w.tape
  output : w'.output = w.output
  size : w.heap.size ≤ w'.heap.size
  block : ∀ k, k < N → ¬ B k → w'.heap[k]? = w.heap[k]?
theorem Fr.refl (N : Nat) (B : Nat → Prop) (w : World) : Fr N B w w := ⟨rfl, rfl, rfl, Nat.le_refl _, fun _ _ _ => rfl⟩
theorem Fr.trans {N : Nat} {B : Nat → Prop} {a b c : World} (h : Fr N B a b) (k : Fr N B b c) : Fr N B a c :=
  ⟨k.os.trans h.os, k.tape.trans h.tape, k.output.trans h.output, Nat.le_trans h.size k.size, fun i hi hb => (k.block i hi hb).trans (h.block i hi hb)⟩
theorem Fr.below {N : Nat} {w w' : World} (h : Fr N (fun _ => False) w w') : Below N w w' := ⟨h.os, h.tape, h.output, h.size, fun k hk => h.block k hk (fun f => f)⟩
theorem Fr.of_below {N : Nat} {B : Nat → Prop} {w w' : World} (h : Below N w w') : Fr N B w w' := ⟨h.os, h.tape, h.output, h.size, fun k hk _ => h.block k hk⟩

/-- The fixed parts of a walk through a function's body. -/
structure Env where
  P : Program
  base : Nat
  n : Nat
  may : Nat → Prop
  N : Nat
  B : Nat → Prop
  w₀ : World
  ρ₀ : Pl
  n₀ : Nat

structure Ctx (E : Env) (S : Slots) (σ : Store) (a : Act) (w : World) (ρ : Pl) : Prop where
  defers : a.defers = []
  size : a.tmps.size = E.n
  slots : SlotsR ρ S a.tmps
  sim : Sim E.base ρ σ w
  fr : Fr E.N E.B E.w₀ w
  le : Le E.ρ₀ ρ
  old : ∀ id p, ρ id = some p → id < E.n₀ → E.ρ₀ id = some p
  may : ∀ id p, ρ id = some p → p.own = true → E.may id → E.B p.blk ∨ E.N ≤ p.blk
  fresh : ∀ id p, ρ id = some p → E.n₀ ≤ id → p.own = true ∧ (E.B p.blk ∨ E.N ≤ p.blk)
  n₀_le : E.n₀ ≤ σ.length
  N_le : E.N ≤ w.heap.size
  later : ∀ id, E.n₀ ≤ id → E.may id

def lift (E : Env) (Q : Exit → Slots → Store → Prop) (e : Exit) (a : Act) (w : World) : Prop := ∃ S σ ρ, Q e S σ ∧ Ctx E S σ a w ρ
def liftK (E : Env) (K : Slots → Store → Prop) (a : Act) (w : World) : Prop := ∃ S σ ρ, K S σ ∧ Ctx E S σ a w ρ

/-- A piece of code, from slots and a store on. -/
def WP (E : Env) (c : Code) (Q : Exit → Slots → Store → Prop) (S : Slots) (σ : Store) : Prop :=
  ∀ a w ρ, Ctx E S σ a w ρ → c.wp E.P (lift E Q) a w

/-- A call: what it answers and what becomes of the store; the objects of T may be written. -/
def ACall (P : Program) (base : Nat) (f : FuncId) (args : List AV) (σ : Store) (T : Nat → Prop) (Q : AV → Store → Prop) : Prop :=
  ∀ w ρ vs, Rs ρ args vs → Sim base ρ σ w →
    Calls P f vs.toArray w fun e w' => ∃ r v σ' ρ', e = .returned v ∧ R ρ' r v ∧ Q r σ' ∧ Sim base ρ' σ' w' ∧ Le ρ ρ' ∧ σ.length ≤ σ'.length ∧
      (∀ id p, ρ' id = some p → id < σ.length → ρ id = some p) ∧
      (∀ id p, ρ' id = some p → σ.length ≤ id → p.own = true ∧ ((∃ i q, T i ∧ ρ i = some q ∧ q.blk = p.blk) ∨ w.heap.size ≤ p.blk)) ∧
      Fr w.heap.size (fun b => ∃ i q, T i ∧ ρ i = some q ∧ q.own = true ∧ q.blk = b) w w'

theorem ACall.mono {P : Program} {base : Nat} {f : FuncId} {args : List AV} {σ : Store} {T : Nat → Prop} {Q Q' : AV → Store → Prop} (h : ACall P base f args σ T Q) (hq : ∀ r σ', Q r σ' → Q' r σ') : ACall P base f args σ T Q' := by
  intro w ρ vs h1 h2
  refine (h w ρ vs h1 h2).mono ?_
  rintro e w' ⟨r, v, σ', ρ', he, hr, hQ, rest⟩
  exact ⟨r, v, σ', ρ', he, hr, hq _ _ hQ, rest⟩
end Go.Proofs.YthbodgnoadlbcaaDoor.Asl

/- The program logic's rules for operations that only compute. -/
namespace Go.Proofs.YthbodgnoadlbcaaDoor.Asl
open Go.RowKit
set_option linter.unusedVariables false
set_option linter.unusedSimpArgs false

theorem lookup_cons_eq {t : Nat} {v : AV} {S : Slots} : Slots.get ((t, v) :: S) t = some v := by simp [Slots.get]
theorem lookup_cons_ne {t d : Nat} {v : AV} {S : Slots} (h : t ≠ d) : Slots.get ((d, v) :: S) t = Slots.get S t := by
  have e : (t == d) = false := by simpa using h
  simp [Slots.get, List.lookup_cons, e]

def okd (E : Env) : Option Tmp → Bool
  | some d => Nat.ble (d + 1) E.n
  | none => true

theorem Ctx.put {E : Env} {S : Slots} {σ : Store} {a : Act} {w : World} {ρ : Pl} (h : Ctx E S σ a w ρ) {d : Option Tmp} {r : AV} {u : Value} (hd : okd E d = true) (hr : R ρ r u) :
    Ctx E (S.put d r) σ (a.put d u) w ρ := by
  cases d with
  | none => exact h
  | some d =>
    have hd' : d < a.tmps.size := by rw [h.size]; exact Nat.le_of_ble_eq_true hd
    refine { h with defers := h.defers, size := by simp [Act.put, h.size], slots := ?_ }
    intro t v ht
    by_cases e : t = d
    · subst e
      rw [Slots.put, lookup_cons_eq] at ht
      cases ht
      exact ⟨u, by simp [Act.put, hd'], hr⟩
    · rw [Slots.put, lookup_cons_ne e] at ht
      obtain ⟨u', h1, h2⟩ := h.slots t v ht
      exact ⟨u', by simp only [Act.put]; rw [Array.getElem?_setIfInBounds_ne (Ne.symm e)]; exact h1, h2⟩

theorem Ctx.ev {E : Env} {S : Slots} {σ : Store} {a : Act} {w : World} {ρ : Pl} (h : Ctx E S σ a w ρ) {x : Operand} {r : AV} (hx : S.ev x = some r) : R ρ r (a.eval x) := by
  cases x with
  | tmp t =>
    obtain ⟨u, h1, h2⟩ := h.slots t r hx
    have : a.eval (.tmp t) = u := by simp [Act.eval, Array.getD_eq_getD_getElem?, h1]
    rw [this]; exact h2
  | const v => cases hx; exact .lit v
  | func f => cases hx; exact .fn .nil
  | global g => cases hx

/-- Less known of the slots. -/
def Sub (S S' : Slots) : Prop := ∀ t v, S.get t = some v → S'.get t = some v
theorem Ctx.less {E : Env} {S S' : Slots} {σ : Store} {a : Act} {w : World} {ρ : Pl} (h : Ctx E S' σ a w ρ) (hs : Sub S S') : Ctx E S σ a w ρ :=
  { h with slots := fun t v ht => h.slots t v (hs t v ht) }

def wpOpsL (P : Program) (ops : Array Oper) (Q : Exit → Act → World → Prop) : List Oper → Act → World → Prop
  | [], a, w => Q .normal a w
  | o :: rest, a, w =>
    if Region.wanted o (yielded ops a.tmps) then o.wp P a w (wpOpsL P ops Q rest) Q
    else wpOpsL P ops Q rest (a.put o.dst undef) w

theorem wpOps_of_L {P : Program} {ops : Array Oper} {Q : Exit → Act → World → Prop} : ∀ (l : List Oper) (is : List Nat) (a : Act) (w : World),
    is.map (ops[·]?) = l.map some → wpOpsL P ops Q l a w → wpOps P ops Q is a w
  | [], is, a, w, hi, h => by
    cases is with
    | nil => exact h
    | cons i is => simp at hi
  | o :: l, is, a, w, hi, h => by
    cases is with
    | nil => simp at hi
    | cons i is =>
      simp only [List.map_cons, List.cons.injEq] at hi
      obtain ⟨h1, h2⟩ := hi
      simp only [wpOps, h1]
      simp only [wpOpsL] at h
      by_cases hw : Region.wanted o (yielded ops a.tmps) = true
      · rw [if_pos hw] at h ⊢
        refine .inl ?_
        unfold Oper.wp at h ⊢
        generalize (execOp a.eval o).run P w = r at h ⊢
        have key : ∀ a w, wpOpsL P ops Q l a w → wpOps P ops Q is a w := fun a w => wpOps_of_L l is a w h2
        revert h
        unfold Oper.upon
        split <;> intro h
        · exact key _ _ h
        · exact key _ _ h
        · exact key _ _ h
        · refine Calls.mono h ?_
          intro e w' he
          cases e with
          | returned v => exact key _ _ he
          | panicked c => exact he
          | outgrown => exact he
        · exact Rows.mono h fun v w' hv => key _ _ hv
        · exact h
        · exact h
      · rw [if_neg hw] at h ⊢
        exact wpOps_of_L l is _ _ h2 h

theorem range_map {ops : Array Oper} : (List.range ops.size).map (ops[·]?) = ops.toList.map some := by
  apply List.ext_getElem?
  intro i
  by_cases h : i < ops.size
  · simp [h]
  · simp [h]

/-- Operations one behind another. -/
def WL (E : Env) (ops : Array Oper) (l : List Oper) (Q : Exit → Slots → Store → Prop) (S : Slots) (σ : Store) : Prop :=
  ∀ a w ρ, Ctx E S σ a w ρ → wpOpsL E.P ops (lift E Q) l a w

theorem wp_region_seq {E : Env} {id : Nat} {ops : Array Oper} {Q : Exit → Slots → Store → Prop} {S : Slots} {σ : Store} (h : WL E ops ops.toList Q S σ) : WP E (.region id ops false) Q S σ :=
  fun a w ρ hc => wp_region (wpOps_of_L _ _ _ _ range_map (h a w ρ hc))
theorem wl_nil {E : Env} {ops : Array Oper} {Q : Exit → Slots → Store → Prop} {S : Slots} {σ : Store} (h : Q .normal S σ) : WL E ops [] Q S σ := fun _ _ ρ hc => ⟨S, σ, ρ, h, hc⟩

section
variable {E : Env} {ops : Array Oper} {l : List Oper} {Q : Exit → Slots → Store → Prop} {S : Slots} {σ : Store}

/-- An operation that answers a value. -/
theorem wl_value {o : Oper} (hg : o.guard = none) (hd : okd E o.dst = true)
    (h : ∀ a w ρ, Ctx E S σ a w ρ → ∃ u w' r σ' ρ', (execOp a.eval o).run E.P w = .ok (.value u) w' ∧ R ρ' r u ∧ Ctx E S σ' a w' ρ' ∧ WL E ops l Q (S.put o.dst r) σ') :
    WL E ops (o :: l) Q S σ := by
  intro a w ρ hc
  obtain ⟨u, w', r, σ', ρ', h1, h2, h3, h4⟩ := h a w ρ hc
  simp only [wpOpsL, Region.wanted, hg, if_true, Oper.wp, h1, Oper.upon]
  exact h4 _ _ _ (h3.put hd h2)

/-- A later world that leaves what was as it was. -/
structure Agree (w w' : World) : Prop where
  size : w.heap.size ≤ w'.heap.size
  block : ∀ k, k < w.heap.size → w'.heap[k]? = w.heap[k]?
theorem Agree.refl (w : World) : Agree w w := ⟨Nat.le_refl _, fun _ _ => rfl⟩
theorem Agree.trans {a b c : World} (h : Agree a b) (k : Agree b c) : Agree a c :=
  ⟨Nat.le_trans h.size k.size, fun i hi => (k.block i (Nat.lt_of_lt_of_le hi h.size)).trans (h.block i hi)⟩
theorem Agree.cell {w w' : World} (h : Agree w w') {a : Addr} (ha : a.block < w.heap.size) : w'.cell? a = w.cell? a := World.cell?_of_block (w := w) (h.block a.block ha)

/-- An operation that only computes, or reads objects that stood when there were n0 of them: in every world that agrees with the one of then. -/
def PO (E : Env) (S : Slots) (σ : Store) (n0 : Nat) (o : Oper) (r : AV) : Prop :=
  ∀ a w ρ W0, Ctx E S σ a w ρ → Agree W0 w → (∀ id p, ρ id = some p → id < n0 → p.blk < W0.heap.size) → ∃ u, R ρ r u ∧ ∀ w', Agree W0 w' → (execOp a.eval o).run E.P w' = .ok (.value u) w'

theorem wl_po {o : Oper} {r : AV} (hg : o.guard = none) (hd : okd E o.dst = true) (h : PO E S σ σ.length o r) (k : WL E ops l Q (S.put o.dst r) σ) : WL E ops (o :: l) Q S σ :=
  wl_value hg hd fun a w ρ hc =>
    let ⟨u, h1, h2⟩ := h a w ρ w hc (Agree.refl w) (fun id p hp _ => hc.sim.size id p hp)
    ⟨u, w, r, σ, ρ, h2 w (Agree.refl w), h1, hc, k⟩

variable {d : Option Tmp} {ty : TypeId} {pos : String} {af : Array Edge} {g : Option (Nat × Bool)} {n0 : Nat}

theorem po_move {x : Operand} {r : AV} (hx : S.ev x = some r) : PO E S σ n0 ⟨d, .move x, ty, pos, af, g⟩ r :=
  fun a w ρ W0 hc _ _ => ⟨_, hc.ev hx, fun _ _ => rfl⟩
theorem po_assign {x : Operand} {r : AV} (hx : S.ev x = some r) : PO E S σ n0 ⟨d, .assign x, ty, pos, af, g⟩ r :=
  fun a w ρ W0 hc _ _ => ⟨_, hc.ev hx, fun _ _ => rfl⟩

theorem R_lit {ρ : Pl} {v u : Value} (h : R ρ (.lit v) u) : u = v := by cases h; rfl

/-- What an operator answers on two plain values, where it always answers. -/
def binLit : BinOp → Value → Value → Option Value
  | op, .int k a, .int k' b =>
    if k ≠ k' then none else
    match op with
    | .add => some (.int k (k.wrap (a + b)))
    | .sub => some (.int k (k.wrap (a - b)))
    | .mul => some (.int k (k.wrap (a * b)))
    | .eql => some (.bool (a == b))
    | .neq => some (.bool (a != b))
    | .lss => some (.bool (decide (a < b)))
    | .leq => some (.bool (decide (a ≤ b)))
    | .gtr => some (.bool (decide (a > b)))
    | .geq => some (.bool (decide (a ≥ b)))
    | .and | .or | .xor | .andNot => some (.int k (bits op k a b))
    | _ => none
  | op, .string a, .string b =>
    match op with
    | .eql => some (.bool (a.toList == b.toList))
    | .neq => some (.bool !(a.toList == b.toList))
    | _ => none
  | _, _, _ => none

theorem run_binLit {P : Program} {w : World} {op : BinOp} {t : TypeId} {x y : Operand} {a b z : Value} (h : binLit op a b = some z) :
    (do eqGuard op t x y a b; binOp op t a b : Sem Value).run P w = .ok z w := by
  unfold binLit at h
  split at h
  · rename_i k m k' n
    split at h
    · cases h
    · rename_i hk
      obtain rfl : k = k' := by simpa using hk
      cases op <;> simp at h <;> subst h <;> simp [eqGuard, binOp, Op.intArith, Op.intCmp, Op.intBits, Sem.run, bind, Sem.bind, pure, Go.bits]
  · cases op <;> simp at h <;> subst h <;> simp [eqGuard, binOp, Op.stringOp, Sem.run, bind, Sem.bind, pure]
  · cases h
end
end Go.Proofs.YthbodgnoadlbcaaDoor.Asl

/- The program logic's steps on memory: a new object, a cell that is written, an object that grows. -/
namespace Go.Proofs.YthbodgnoadlbcaaDoor.Asl
open Go.RowKit
set_option linter.unusedVariables false
set_option linter.unusedSimpArgs false

/-- A kind that is read by cells. -/
def Ob.readable (o : Ob) : Prop := o.kind = .ro ∨ o.kind = .own

theorem alloc_size (w : World) (o : Obj) : (w.alloc o).heap.size = w.heap.size + 1 := by
  show (w.heap.push o).size = _
  simp
theorem alloc_at (w : World) (o : Obj) : (w.alloc o).heap[w.heap.size]? = some o := by
  show (w.heap.push o)[w.heap.size]? = _
  simp

theorem Sim.cell {base : Nat} {ρ : Pl} {σ : Store} {w : World} (h : Sim base ρ σ w) {id : Nat} {o : Ob} {p : Place} (ho : σ[id]? = some o) (hp : ρ id = some p) (hl : o.readable) {i : Nat} {c : AV} (hc : o.cells[i]? = some c) :
    c.one = true ∧ ∃ u, w.cell? ⟨p.blk, p.off + i, none⟩ = some u ∧ R ρ c u := by
  have := h.obs id o p ho hp
  unfold ObRel at this
  rcases hl with hk | hk
  · rw [hk] at this; exact this.2.2.2 i c hc
  · rw [hk] at this
    obtain ⟨_, _, _, h0, cs, ty, hb, _, _, h5⟩ := this
    obtain ⟨h6, u, h7, h8⟩ := h5 i c hc
    refine ⟨h6, u, ?_, h8⟩
    simp [World.cell?, hb, h0, h7]

theorem Sim.drew {base : Nat} {ρ : Pl} {σ : Store} {w : World} (h : Sim base ρ σ w) : Sim base ρ σ w.drew := ⟨h.dom, h.obs, h.inj, h.size, h.le⟩
theorem Fr.drew {N : Nat} {B : Nat → Prop} {w w' : World} (h : Fr N B w w') : Fr N B w w'.drew := ⟨h.os, h.tape, h.output, h.size, h.block⟩
theorem Ctx.drew {E : Env} {S : Slots} {σ : Store} {a : Act} {w : World} {ρ : Pl} (h : Ctx E S σ a w ρ) : Ctx E S σ a w.drew ρ :=
  { h with sim := h.sim.drew, fr := h.fr.drew, N_le := h.N_le }

/-- An object's relation looks at its own block alone. -/
theorem ObRel.of_block {base : Nat} {ρ ρ' : Pl} {o : Ob} {p : Place} {w w' : World} (h : ObRel base ρ o p w) (hl : Le ρ ρ') (hb : w'.heap[p.blk]? = w.heap[p.blk]?) : ObRel base ρ' o p w' := by
  unfold ObRel at *
  cases hk : o.kind <;> simp only [hk] at h ⊢
  · obtain ⟨h1, h2, h3, h4⟩ := h
    refine ⟨h1, h2, h3, fun i c hc => ?_⟩
    obtain ⟨h5, u, h6, h7⟩ := h4 i c hc
    exact ⟨h5, u, by rw [← h6]; exact World.cell?_of_block (w := w) (w' := w') hb, h7.mono hl⟩
  · obtain ⟨h1, h2, h3, h4, cs, ty, h5, h6, h7, h8⟩ := h
    refine ⟨h1, h2, h3, h4, cs, ty, by rw [hb]; exact h5, h6, h7, fun i c hc => ?_⟩
    obtain ⟨h9, u, h10, h11⟩ := h8 i c hc
    exact ⟨h9, u, h10, h11.mono hl⟩
  · obtain ⟨h1, h2, es, clock, h3, h4, h5⟩ := h
    refine ⟨h1, h2, es, clock, by rw [hb]; exact h3, h4, fun i k c hc => ?_⟩
    obtain ⟨e, h6, h7, h8⟩ := h5 i k c hc
    exact ⟨e, h6, h7, h8.mono hl⟩

theorem Ob.live_own {base : Nat} {ρ : Pl} {o : Ob} {p : Place} {w : World} (h : ObRel base ρ o p w) (hl : o.live) : p.own = true ∧ base ≤ p.blk := by
  unfold ObRel at h
  rcases hl with hk | hk <;> rw [hk] at h
  · exact ⟨h.1, h.2.2.1⟩
  · exact ⟨h.1, h.2.1⟩
theorem ObRel.ro_lt {base : Nat} {ρ : Pl} {o : Ob} {p : Place} {w : World} (h : ObRel base ρ o p w) (hk : o.kind = .ro) : p.blk < base := by
  unfold ObRel at h; rw [hk] at h; exact h.2.2.1
theorem Kind.cases (o : Ob) : o.kind = .dead ∨ o.kind = .ro ∨ o.live := by
  unfold Ob.live
  cases h : o.kind <;> simp

/-- A place more. -/
def more (ρ : Pl) (id : Nat) (p : Place) : Pl := fun i => if i = id then some p else ρ i
theorem more_at (ρ : Pl) (id : Nat) (p : Place) : more ρ id p id = some p := by simp [more]
theorem more_le {base : Nat} {ρ : Pl} {σ : Store} {w : World} (h : Sim base ρ σ w) (p : Place) : Le ρ (more ρ σ.length p) := by
  intro i q hq
  have := h.dom i q hq
  simp [more]; rw [if_neg (by omega)]; exact hq

/-- A new object in a new block. -/
theorem Sim.new {base : Nat} {ρ : Pl} {σ : Store} {w : World} (h : Sim base ρ σ w) (o : Ob) (ob : Obj) (p : Place) (hp : p.blk = w.heap.size)
    (ho : ObRel base (more ρ σ.length p) o p (w.alloc ob)) : Sim base (more ρ σ.length p) (σ ++ [o]) (w.alloc ob) := by
  have hle := more_le h p
  have hold : ∀ i q, more ρ σ.length p i = some q → i ≠ σ.length → ρ i = some q := by
    intro i q hq hi
    simpa [more, hi] using hq
  have hsz : (w.alloc ob).heap.size = w.heap.size + 1 := alloc_size _ _
  refine ⟨?_, ?_, ?_, ?_, by rw [hsz]; have := h.le; omega⟩
  · intro i q hq
    by_cases e : i = σ.length
    · simp; omega
    · have := h.dom i q (hold i q hq e); simp; omega
  · intro i o' q ho' hq
    by_cases e : i = σ.length
    · subst e
      rw [more_at] at hq; cases hq
      simp at ho'; subst ho'; exact ho
    · have hq' := hold i q hq e
      have hi := h.dom i q hq'
      rw [List.getElem?_append_left hi] at ho'
      exact (h.obs i o' q ho' hq').of_block hle (Below.heap_alloc _ _ _ (h.size i q hq'))
  · intro i j o1 o2 p1 p2 h1 h2 l1 l2 q1 q2 e
    by_cases ei : i = σ.length <;> by_cases ej : j = σ.length
    · omega
    · have := h.size j p2 (hold j p2 q2 ej)
      rw [ei, more_at] at q1; cases q1; omega
    · have := h.size i p1 (hold i p1 q1 ei)
      rw [ej, more_at] at q2; cases q2; omega
    · have k1 := hold i p1 q1 ei
      have k2 := hold j p2 q2 ej
      rw [List.getElem?_append_left (h.dom i p1 k1)] at h1
      rw [List.getElem?_append_left (h.dom j p2 k2)] at h2
      exact h.inj i j o1 o2 p1 p2 h1 h2 l1 l2 k1 k2 e
  · intro i q hq
    rw [hsz]
    by_cases e : i = σ.length
    · rw [e, more_at] at hq; cases hq; omega
    · have := h.size i q (hold i q hq e); omega

theorem Fr.new {N : Nat} {B : Nat → Prop} {w w' : World} (h : Fr N B w w') (hN : N ≤ w'.heap.size) (ob : Obj) : Fr N B w (w'.alloc ob) :=
  h.trans ⟨rfl, rfl, rfl, by rw [alloc_size]; omega, fun k hk _ => Below.heap_alloc _ _ _ (by omega)⟩

theorem Ctx.new {E : Env} {S : Slots} {σ : Store} {a : Act} {w : World} {ρ : Pl} (h : Ctx E S σ a w ρ) (o : Ob) (ob : Obj) (p : Place) (hp : p.blk = w.heap.size) (hown : p.own = true)
    (ho : ObRel E.base (more ρ σ.length p) o p (w.alloc ob)) : Ctx E S (σ ++ [o]) a (w.alloc ob) (more ρ σ.length p) := by
  have hle := more_le h.sim p
  have hold : ∀ i q, more ρ σ.length p i = some q → i ≠ σ.length → ρ i = some q := by
    intro i q hq hi
    simpa [more, hi] using hq
  refine { defers := h.defers, size := h.size, slots := ?_, sim := h.sim.new o ob p hp ho, fr := h.fr.new h.N_le ob, le := h.le.trans hle, old := ?_, may := ?_, fresh := ?_, n₀_le := ?_, N_le := ?_, later := h.later }
  · intro t v ht
    obtain ⟨u, h1, h2⟩ := h.slots t v ht
    exact ⟨u, h1, h2.mono hle⟩
  · intro i q hq hi
    exact h.old i q (hold i q hq (by have := h.n₀_le; omega)) hi
  · intro i q hq h1 h2
    by_cases e : i = σ.length
    · rw [e, more_at] at hq; cases hq; exact .inr (by rw [hp]; exact h.N_le)
    · exact h.may i q (hold i q hq e) h1 h2
  · intro i q hq h1
    by_cases e : i = σ.length
    · rw [e, more_at] at hq; cases hq; exact ⟨hown, .inr (by rw [hp]; exact h.N_le)⟩
    · exact h.fresh i q (hold i q hq e) h1
  · have := h.n₀_le; simp; omega
  · have := h.N_le; rw [alloc_size]; omega

/-- Cells that stand for abstract ones, and more behind them. -/
def CellsR (ρ : Pl) (cs : List AV) (arr : Array Value) : Prop := cs.length ≤ arr.size ∧ ∀ (i : Nat) (c : AV), cs[i]? = some c → c.one = true ∧ ∃ u : Value, arr[i]? = some u ∧ R ρ c u
theorem CellsR.mono {ρ ρ' : Pl} {cs : List AV} {arr : Array Value} (h : CellsR ρ cs arr) (hl : Le ρ ρ') : CellsR ρ' cs arr :=
  ⟨h.1, fun i c hc => let ⟨h1, u, h2, h3⟩ := h.2 i c hc; ⟨h1, u, h2, h3.mono hl⟩⟩

theorem Ctx.newCells {E : Env} {S : Slots} {σ : Store} {a : Act} {w : World} {ρ : Pl} (h : Ctx E S σ a w ρ) (cs : List AV) (arr : Array Value) (esz : Nat) (ty : TypeId) (hr : CellsR ρ cs arr) :
    Ctx E S (σ ++ [⟨.own, esz, cs, []⟩]) a (w.alloc (.cells arr ty)) (more ρ σ.length ⟨w.heap.size, 0, arr.size, esz, true⟩) := by
  refine h.new _ _ _ rfl rfl ?_
  have := hr.mono (more_le h.sim ⟨w.heap.size, 0, arr.size, esz, true⟩)
  exact ⟨rfl, rfl, h.sim.le, rfl, arr, ty, alloc_at _ _, rfl, this.1, this.2⟩

/-- The objects but one stay as they were. -/
theorem Sim.write {base : Nat} {ρ : Pl} {σ : Store} {w w' : World} (h : Sim base ρ σ w) {id : Nat} {o o' : Ob} {p : Place} (ho : σ[id]? = some o) (hp : ρ id = some p) (hlo : o.live) (hlo' : o'.live)
    (hsz : w'.heap.size = w.heap.size) (hb : ∀ k, k ≠ p.blk → w'.heap[k]? = w.heap[k]?) (hr : ObRel base ρ o' p w') : Sim base ρ (σ.set id o') w' := by
  have hid : id < σ.length := h.dom id p hp
  have key : ∀ (i : Nat) (x : Ob), (σ.set id o')[i]? = some x → (i = id ∧ x = o') ∨ (i ≠ id ∧ σ[i]? = some x) := by
    intro i x hx
    rw [List.getElem?_set] at hx
    by_cases e : id = i
    · subst e; rw [if_pos rfl, if_pos hid] at hx; cases hx; exact .inl ⟨rfl, rfl⟩
    · rw [if_neg e] at hx; exact .inr ⟨fun z => e z.symm, hx⟩
  refine ⟨?_, ?_, ?_, ?_, by rw [hsz]; exact h.le⟩
  · intro i q hq; have := h.dom i q hq; simpa using this
  · intro i x q hx hq
    rcases key i x hx with ⟨rfl, rfl⟩ | ⟨hne, hx'⟩
    · rw [hp] at hq; cases hq; exact hr
    · have hx0 := h.obs i x q hx' hq
      rcases Kind.cases x with hk | hk | hk
      · unfold ObRel; rw [hk]; trivial
      · refine hx0.of_block (Le.refl _) (hb _ ?_)
        have := hx0.ro_lt hk
        have := (Ob.live_own (h.obs id o p ho hp) hlo).2
        omega
      · refine hx0.of_block (Le.refl _) (hb _ ?_)
        intro e
        exact hne (h.inj i id x o q p hx' ho hk hlo hq hp e)
  · intro i j x y q q' hx hy lx ly hq hq' e
    rcases key i x hx with ⟨rfl, rfl⟩ | ⟨hi, hx'⟩ <;> rcases key j y hy with ⟨rfl, rfl⟩ | ⟨hj, hy'⟩
    · rfl
    · exact h.inj _ _ o y q q' ho hy' hlo ly hq hq' e
    · exact h.inj _ _ x o q q' hx' ho lx hlo hq hq' e
    · exact h.inj _ _ x y q q' hx' hy' lx ly hq hq' e
  · intro i q hq; rw [hsz]; exact h.size i q hq

theorem Ctx.write {E : Env} {S : Slots} {σ : Store} {a : Act} {w w' : World} {ρ : Pl} (h : Ctx E S σ a w ρ) {id : Nat} {o o' : Ob} {p : Place} (ho : σ[id]? = some o) (hp : ρ id = some p) (hlo : o.live) (hlo' : o'.live) (hm : E.may id)
    (hos : w'.os = w.os) (htape : w'.tape = w.tape) (hout : w'.output = w.output)
    (hsz : w'.heap.size = w.heap.size) (hb : ∀ k, k ≠ p.blk → w'.heap[k]? = w.heap[k]?) (hr : ObRel E.base ρ o' p w') : Ctx E S (σ.set id o') a w' ρ := by
  refine { h with sim := h.sim.write ho hp hlo hlo' hsz hb hr, fr := h.fr.trans ⟨hos, htape, hout, by omega, fun k hk hB => hb k ?_⟩, n₀_le := by simpa using h.n₀_le, N_le := by rw [hsz]; exact h.N_le }
  intro e; subst e
  rcases h.may id p hp (Ob.live_own (h.sim.obs id o p ho hp) hlo).1 hm with k1 | k1
  · exact hB k1
  · omega

theorem run_store_one {P : Program} {w : World} {a : Addr} {v : Value} (hv : v.oneCell' = true) : (store a v : Sem Unit).run P w = match w.cell? a with
    | some _ => if w.frozen? a then .halt (.unsupported (.unsafePointer "a write to bytes that a string shares")) w else .ok () (w.setCell a v)
    | none => match w.farStore P a v false with
      | .ok (w, _) => .ok () w
      | .error h => .halt h w := by
  cases v <;> first | (simp [Value.oneCell'] at hv; done) | rfl

/-- A row of cells is written into. -/
theorem storeCells_own {P : Program} : ∀ (vs : List Value) (i : Nat) (w : World) (b off : Nat) (cs : Array Value) (ty : TypeId), w.heap[b]? = some (.cells cs ty (0, 0)) → off + i + vs.length ≤ cs.size →
    (∀ v ∈ vs, v.oneCell' = true) →
    ∃ w', (storeCells ⟨b, off, none⟩ vs i).run P w = .ok () w' ∧ w'.os = w.os ∧ w'.tape = w.tape ∧ w'.output = w.output ∧ w'.heap.size = w.heap.size ∧ (∀ k, k ≠ b → w'.heap[k]? = w.heap[k]?) ∧
      ∃ cs', w'.heap[b]? = some (.cells cs' ty (0, 0)) ∧ cs'.size = cs.size ∧ (∀ j, (j < off + i ∨ off + i + vs.length ≤ j) → cs'[j]? = cs[j]?) ∧ ∀ j, j < vs.length → cs'[off + i + j]? = vs[j]?
  | [], i, w, b, off, cs, ty, hb, hl, h1 => ⟨w, rfl, rfl, rfl, rfl, rfl, fun _ _ => rfl, cs, hb, rfl, fun _ _ => rfl, fun j hj => by simp at hj⟩
  | v :: vs, i, w, b, off, cs, ty, hb, hl, h1 => by
    have hv := h1 v (by simp)
    have hlt : off + i < cs.size := by simp at hl; omega
    have hcell : w.cell? ⟨b, off + i, none⟩ = some cs[off + i] := by simp [World.cell?, hb, hlt]
    have hfz : w.frozen? ⟨b, off + i, none⟩ = false := by
      simp only [World.frozen?, hb]
      simp
    have hadd : (⟨b, off, none⟩ : Addr).add i = ⟨b, off + i, none⟩ := by
      unfold Addr.add
      by_cases e : i = 0
      · simp [e]
      · simp [e]
    have hblk : b < w.heap.size := by
      rcases Nat.lt_or_ge b w.heap.size with h | h
      · exact h
      · rw [Array.getElem?_eq_none h] at hb; cases hb
    have hset : (w.setCell ⟨b, off + i, none⟩ v).heap[b]? = some (.cells (cs.setIfInBounds (off + i) v) ty (0, 0)) := by
      simp [World.setCell, Array.getElem?_modify, hb]
    obtain ⟨w', r1, r2, r3, r4, r5, r6, cs', r7, r8, r9, r10⟩ := storeCells_own (P := P) vs (i + 1) (w.setCell ⟨b, off + i, none⟩ v) b off _ ty hset (by simp at hl ⊢; omega) (fun u hu => h1 u (by simp [hu]))
    refine ⟨w', ?_, r2, r3, r4, by rw [r5]; simp [World.setCell], fun k hk => ?_, cs', r7, by rw [r8]; simp, ?_, ?_⟩
    · have : (store (⟨b, off + i, none⟩ : Addr) v : Sem Unit).run P w = .ok () (w.setCell ⟨b, off + i, none⟩ v) := by
        rw [run_store_one hv, hcell]
        simp [hfz]
      unfold storeCells
      rw [hadd]
      rw [Sem.run_bind, this]
      exact r1
    · rw [r6 k hk]
      exact Below.heap_setCell _ _ _ _ hk
    · intro j hj
      rw [r9 j (by simp at hj ⊢; omega), Array.getElem?_setIfInBounds_ne (by simp at hj; omega)]
    · intro j hj
      cases j with
      | zero =>
        rw [r9 (off + i + 0) (by left; omega)]
        simp [hlt]
      | succ j =>
        have := r10 j (by simpa using hj)
        rw [show off + i + (j + 1) = off + (i + 1) + j by omega, this]
        simp
end Go.Proofs.YthbodgnoadlbcaaDoor.Asl

/- The program logic's rules for memory: loads, stores, new variables and rows, addresses. -/
namespace Go.Proofs.YthbodgnoadlbcaaDoor.Asl
open Go.RowKit
set_option linter.unusedVariables false
set_option linter.unusedSimpArgs false

def aggB : TypeDesc → Bool
  | .struct _ | .array _ _ => true
  | _ => false
/-- What is known of a type. -/
class Ty (P : Program) (t : TypeId) (agg : outParam Bool) (size bytes : outParam Nat) (z : outParam Value) : Prop where
  info : (P.info? t).map (fun i => (i.zero, i.size, i.bytes)) = some (some z, size, bytes)
  und : (P.underlying t).map aggB = some agg

/-- What a type stands on. -/
class Un (P : Program) (t : TypeId) (d : outParam TypeDesc) : Prop where
  eq : P.underlying t = some d

section
variable {P : Program} {t : TypeId} {agg : Bool} {size bytes : Nat} {z : Value} {w : World}
theorem Ty.typeInfo (h : Ty P t agg size bytes z) : ∃ i, (typeInfo t).run P w = .ok i w ∧ i.zero = some z ∧ i.size = size ∧ i.bytes = bytes := by
  have := h.info
  cases hi : P.info? t with
  | none => rw [hi] at this; cases this
  | some i =>
    rw [hi] at this
    simp at this
    exact ⟨i, by simp [Go.typeInfo, hi], this.1, this.2.1, this.2.2⟩
theorem Ty.sizeOf (h : Ty P t agg size bytes z) : (sizeOf t).run P w = .ok size w := by
  obtain ⟨i, h1, _, h3, _⟩ := h.typeInfo (w := w)
  simp [Go.sizeOf, h1, h3]
theorem Ty.zeroValue (h : Ty P t agg size bytes z) : (zeroValue t).run P w = .ok z w := by
  obtain ⟨i, h1, h2, _, _⟩ := h.typeInfo (w := w)
  simp [Go.zeroValue, h1, h2]
theorem Ty.isAgg (h : Ty P t agg size bytes z) : (isAgg t).run P w = .ok agg w := by
  have := h.und
  cases hu : P.underlying t with
  | none => rw [hu] at this; cases this
  | some d =>
    rw [hu] at this
    simp at this
    subst this
    simp only [Go.isAgg, underlying, Sem.run_bind, run_program, Result.andThen_ok, hu, Sem.run_pure]
    cases d <;> rfl
end

theorem addr_add (b o n : Nat) : (⟨b, o, none⟩ : Addr).add n = ⟨b, o + n, none⟩ := by
  unfold Addr.add
  by_cases h : n = 0 <;> simp [h]

theorem run_load_cell {P : Program} {w : World} {a : Addr} {u : Value} (h : w.cell? a = some u) : (load a : Sem Value).run P w = .ok u w := by
  rw [run_load, h]

theorem run_loadCellsFrom {P : Program} {w : World} {b o : Nat} : ∀ (n i : Nat) (acc : Array Value) (us : List Value), us.length = n → (∀ j u, us[j]? = some u → w.cell? ⟨b, o + (i + j), none⟩ = some u) →
    (loadCellsFrom ⟨b, o, none⟩ i n acc).run P w = .ok (acc ++ us.toArray) w
  | 0, i, acc, us, hl, h => by
    obtain rfl : us = [] := by simpa using hl
    simp [loadCellsFrom]
  | n + 1, i, acc, us, hl, h => by
    cases us with
    | nil => simp at hl
    | cons u us =>
      have h0 : w.cell? ⟨b, o + i, none⟩ = some u := h 0 u rfl
      unfold loadCellsFrom
      rw [Sem.run_bind, addr_add, run_load_cell h0, Result.andThen_ok, run_loadCellsFrom n (i + 1) _ us (by simpa using hl) (fun j x hx => by have := h (j + 1) x (by simpa using hx); rw [← this]; congr 2; omega)]
      simp

section
variable {E : Env} {ops : Array Oper} {l : List Oper} {Q : Exit → Slots → Store → Prop} {S : Slots} {σ : Store} {d : Option Tmp} {ty : TypeId} {pos : String} {af : Array Edge} {g : Option (Nat × Bool)} {n0 : Nat} {x y : Operand}

theorem po_load1 {t : TypeId} {size bytes : Nat} {z : Value} {id off : Nat} {o : Ob} {c : AV} (hx : S.ev x = some (.pt id off)) (ht : Ty E.P t false size bytes z) (ho : σ[id]? = some o) (hl : o.readable) (hc : o.cells[off]? = some c) (hn0 : id < n0) :
    PO E S σ n0 ⟨d, .load t x, ty, pos, af, g⟩ c := by
  intro a w ρ W0 hw hag hn
  have h1 := hw.ev hx
  generalize hv : a.eval x = v at h1
  cases h1 with
  | @pt _ _ p hp =>
    obtain ⟨_, u, hu, hr⟩ := hw.sim.cell ho hp hl hc
    refine ⟨u, hr, fun w' hw' => ?_⟩
    have hlt := hn _ _ hp hn0
    have hu' : w'.cell? ⟨p.blk, p.off + off, none⟩ = some u := by rw [hw'.cell hlt, ← hag.cell hlt]; exact hu
    simp only [execOp, hv, Instr.loadAt, Instr.sureAddr, loadVar, Sem.run_bind, Sem.run_pure, Result.andThen_ok, ht.isAgg, run_load_cell hu', if_neg, Bool.false_eq_true, if_false]

/-- Cells that lie one behind another. -/
def cut (o : Ob) (off n : Nat) : List AV := (o.cells.drop off).take n

theorem Sim.cut {base : Nat} {ρ : Pl} {σ : Store} {w : World} (h : Sim base ρ σ w) {id : Nat} {o : Ob} {p : Place} (ho : σ[id]? = some o) (hp : ρ id = some p) (hl : o.readable) {off n : Nat} {cs : List AV} (hc : cut o off n = cs) :
    ∃ us, Rs ρ cs us ∧ us.length = cs.length ∧ (∀ c ∈ cs, c.one = true) ∧ ∀ (j : Nat) (u : Value), us[j]? = some u → w.cell? ⟨p.blk, p.off + off + j, none⟩ = some u := by
  have hget : ∀ (j : Nat) c, cs[j]? = some c → o.cells[off + j]? = some c := by
    intro j c hj
    subst hc
    unfold Asl.cut at hj
    rw [List.getElem?_take] at hj
    split at hj
    · rwa [List.getElem?_drop] at hj
    · cases hj
  clear hc
  induction cs generalizing off with
  | nil => exact ⟨[], .nil, rfl, by simp, by simp⟩
  | cons c cs ih =>
    obtain ⟨h1, u, h2, h3⟩ := h.cell ho hp hl (hget 0 c rfl)
    obtain ⟨us, h4, h5, h6, h7⟩ := ih (off := off + 1) (fun j x hx => by have := hget (j + 1) x (by simpa using hx); rw [show off + (j + 1) = off + 1 + j by omega] at this; exact this)
    refine ⟨u :: us, .cons h3 h4, by simp [h5], by simpa using ⟨h1, h6⟩, ?_⟩
    intro j v hj
    cases j with
    | zero => simp at hj; subst hj; rw [← h2]; rfl
    | succ j => have := h7 j v (by simpa using hj); rw [← this]; congr 2; omega

theorem po_loadn {t : TypeId} {size bytes : Nat} {z : Value} {id off : Nat} {o : Ob} {cs : List AV} (hx : S.ev x = some (.pt id off)) (ht : Ty E.P t true size bytes z) (ho : σ[id]? = some o) (hl : o.readable) (hc : cut o off size = cs) (hn : cs.length = size) (hn0 : id < n0) :
    PO E S σ n0 ⟨d, .load t x, ty, pos, af, g⟩ (.agg cs) := by
  intro a w ρ W0 hw hag hN
  have h1 := hw.ev hx
  generalize hv : a.eval x = v at h1
  cases h1 with
  | @pt _ _ p hp =>
    obtain ⟨us, h2, h3, _, h4⟩ := hw.sim.cut ho hp hl hc
    refine ⟨.agg us.toArray, .agg h2, fun w' hw' => ?_⟩
    have hlt := hN _ _ hp hn0
    simp only [execOp, hv, Instr.loadAt, Instr.sureAddr, loadVar, Sem.run_bind, Sem.run_pure, Result.andThen_ok, ht.isAgg, if_true, ht.sizeOf, loadCells]
    rw [run_loadCellsFrom size 0 #[] us (by omega) (fun j u hu => by rw [hw'.cell hlt, ← hag.cell hlt]; have := h4 j u hu; rw [← this]; congr 2; omega)]
    simp

theorem AV.cells_Rs {ρ : Pl} {r : AV} {v : Value} (h : R ρ r v) : Rs ρ r.cells v.cells.toList := by
  cases h with
  | agg h => simpa [AV.cells, Value.cells] using h
  | lit v =>
    cases v <;> first | exact .cons (.lit _) .nil | skip
    rename_i cs
    simp only [AV.cells, Value.cells]
    refine Rs.of_get (by simp) fun i x hx => ?_
    rw [List.getElem?_map] at hx
    cases hc : cs.toList[i]? with
    | none => rw [hc] at hx; cases hx
    | some u => rw [hc] at hx; simp at hx; subst hx; exact ⟨u, rfl, .lit u⟩
  | sl h1 h2 h3 => exact .cons (.sl h1 h2 h3) .nil
  | pt h1 => exact .cons (.pt h1) .nil
  | fn h1 => exact .cons (.fn h1) .nil
  | mp h1 => exact .cons (.mp h1) .nil
  | tup h1 => exact .cons (.tup h1) .nil

theorem R.one {ρ : Pl} {r : AV} {v : Value} (h : R ρ r v) (h1 : r.one = true) : v.oneCell' = true := by
  cases h <;> first | rfl | (simp [AV.one] at h1; done) | skip
  cases v <;> first | rfl | (simp [AV.one] at h1; done)
theorem Rs.one {ρ : Pl} {xs : List AV} {vs : List Value} (h : Rs ρ xs vs) (h1 : ∀ c ∈ xs, c.one = true) : ∀ v ∈ vs, v.oneCell' = true := by
  induction xs generalizing vs with
  | nil => cases h; simp
  | cons x xs ih =>
    cases h with
    | cons k1 k2 =>
      intro v hv
      rcases List.mem_cons.1 hv with rfl | hv
      · exact k1.one (h1 x (by simp))
      · exact ih k2 (fun c hc => h1 c (by simp [hc])) v hv

/-- Cells written into a list of cells. -/
def splice (l : List AV) (off : Nat) (cs : List AV) : List AV := l.take off ++ cs ++ l.drop (off + cs.length)
theorem splice_length {l : List AV} {off : Nat} {cs : List AV} (h : off + cs.length ≤ l.length) : (splice l off cs).length = l.length := by simp [splice]; omega
theorem splice_get {l : List AV} {off : Nat} {cs : List AV} (h : off + cs.length ≤ l.length) (i : Nat) :
    (splice l off cs)[i]? = if i < off then l[i]? else if i < off + cs.length then cs[i - off]? else l[i]? := by
  unfold splice
  rw [List.append_assoc, List.getElem?_append, List.getElem?_append]
  simp only [List.length_take, Nat.min_eq_left (show off ≤ l.length by omega)]
  by_cases h1 : i < off
  · simp [h1, List.getElem?_take]
  · rw [if_neg h1, if_neg h1]
    by_cases h2 : i < off + cs.length
    · rw [if_pos (by omega), if_pos h2]
    · rw [if_neg (by omega), if_neg h2, List.getElem?_drop]
      congr 1; omega
theorem wl_store {t : TypeId} {agg : Bool} {size bytes : Nat} {z : Value} {id off : Nat} {o : Ob} {r : AV} {cs : List AV} (hx : S.ev x = some (.pt id off)) (hy : S.ev y = some r) (ht : Ty E.P t agg size bytes z) (ho : σ[id]? = some o) (hk : o.kind = .own)
    (hcs : r.cells = cs) (hn : cs.length = size) (h1 : ∀ c ∈ cs, c.one = true) (hoff : off + size ≤ o.cells.length) (hm : E.may id)
    (k : WL E ops l Q S (σ.set id { o with cells := splice o.cells off cs })) : WL E ops (⟨none, .store t x y, ty, pos, af, none⟩ :: l) Q S σ := by
  intro a w ρ hw
  have e1 := hw.ev hx
  have e2 := hw.ev hy
  generalize hv : a.eval x = v at e1
  generalize hu : a.eval y = u at e2
  cases e1 with
  | pt hp =>
    have hob := hw.sim.obs id o _ ho hp
    unfold ObRel at hob; rw [hk] at hob
    obtain ⟨q1, q2, q3, q4, arr, ety, q5, q6, q7, q8⟩ := hob
    have hrs := AV.cells_Rs e2
    rw [hcs] at hrs
    have hlen := hrs.length
    obtain ⟨w', r1, r2, r3, r4, r5, r6, arr', r7, r8, r9, r10⟩ := storeCells_own (P := E.P) u.cells.toList 0 w _ off arr ety q5 (by rw [← hlen, hn]; omega) (hrs.one h1)
    simp only [Nat.add_zero] at r9 r10
    have hrun : (execOp a.eval ⟨none, .store t x y, ty, pos, af, none⟩).run E.P w = .ok .skip w' := by
      simp only [execOp, hv, hu, Instr.storeAt, Instr.sureAddr, storeVar, Sem.run_bind, Sem.run_pure, Result.andThen_ok, ht.sizeOf, q4, Nat.zero_add]
      rw [if_neg (by have : u.cells.size = size := by rw [← Array.length_toList, ← hlen, hn]
                     simp [this])]
      simp only [Sem.run_pure, Result.andThen_ok, Sem.run_bind, r1]
    simp only [wpOpsL, Region.wanted, if_true, Oper.wp, hrun, Oper.upon, Act.put]
    refine k a w' ρ (hw.write ho hp (.inl hk) (.inl hk) hm r2 r3 r4 r5 r6 ?_)
    unfold ObRel
    simp only [hk]
    refine ⟨q1, q2, q3, q4, arr', ety, r7, by rw [r8]; exact q6, by rw [splice_length (by omega), r8]; exact q7, fun i c hc => ?_⟩
    rw [splice_get (by omega)] at hc
    by_cases g1 : i < off
    · rw [if_pos g1] at hc
      obtain ⟨s1, u', s2, s3⟩ := q8 i c hc
      exact ⟨s1, u', by rw [r9 i (.inl g1)]; exact s2, s3⟩
    · rw [if_neg g1] at hc
      by_cases g2 : i < off + cs.length
      · rw [if_pos g2] at hc
        obtain ⟨u', s2, s3⟩ := hrs.get (i - off) c hc
        refine ⟨h1 c (List.mem_of_getElem? hc), u', ?_, s3⟩
        have := r10 (i - off) (by rw [← hlen]; omega)
        rw [show off + (i - off) = i by omega] at this
        rw [this]; exact s2
      · rw [if_neg g2] at hc
        obtain ⟨s1, u', s2, s3⟩ := q8 i c hc
        exact ⟨s1, u', by rw [r9 i (.inr (by rw [← hlen]; omega))]; exact s2, s3⟩
end
end Go.Proofs.YthbodgnoadlbcaaDoor.Asl

/- The program logic's rules for what is made: variables, structs, rows; addresses, lengths. -/
namespace Go.Proofs.YthbodgnoadlbcaaDoor.Asl
open Go.RowKit
set_option linter.unusedVariables false
set_option linter.unusedSimpArgs false

theorem CellsR.of_Rs {ρ : Pl} {cs : List AV} {us : List Value} (h : Rs ρ cs us) (h1 : ∀ c ∈ cs, c.one = true) : CellsR ρ cs us.toArray :=
  ⟨by simp [h.length], fun i c hc => ⟨h1 c (List.mem_of_getElem? hc), let ⟨u, h2, h3⟩ := h.get i c hc; ⟨u, by simpa using h2, h3⟩⟩⟩
theorem Rs.lits (ρ : Pl) : ∀ (us : List Value), Rs ρ (us.map .lit) us
  | [] => .nil
  | u :: us => .cons (.lit u) (Rs.lits ρ us)

section
variable {E : Env} {ops : Array Oper} {l : List Oper} {Q : Exit → Slots → Store → Prop} {S : Slots} {σ : Store} {d : Option Tmp} {ty : TypeId} {pos : String} {af : Array Edge} {g : Option (Nat × Bool)} {n0 : Nat} {x y : Operand}

/-- A new variable that holds a value. -/
theorem wl_box {t : TypeId} {r : AV} {cs : List AV} (esz : Nat) (hx : S.ev x = some r) (hcs : r.cells = cs) (h1 : ∀ c ∈ cs, c.one = true) (hd : okd E d = true)
    (k : WL E ops l Q (S.put d (.pt σ.length 0)) (σ ++ [⟨.own, esz, cs, []⟩])) : WL E ops (⟨d, .box t x, ty, pos, af, none⟩ :: l) Q S σ := by
  refine wl_value rfl hd fun a w ρ hw => ?_
  have e := hw.ev hx
  have hrs := AV.cells_Rs e
  rw [hcs] at hrs
  refine ⟨.pointer (some ⟨w.heap.size, 0, none⟩), w.alloc (.cells (a.eval x).cells t), .pt σ.length 0, _, more ρ σ.length ⟨w.heap.size, 0, (a.eval x).cells.size, esz, true⟩, ?_, ?_, ?_, k⟩
  · simp [execOp, Instr.box, newVar, newRow, World.alloc_eq]
  · exact .pt (more_at _ _ _)
  · have := hw.newCells cs (a.eval x).cells esz t (by simpa using CellsR.of_Rs hrs h1)
    exact this
/-- A new variable that holds its type's zero value. -/
theorem wl_alloc {t : TypeId} {agg : Bool} {size bytes : Nat} {z : Value} {cs : List AV} (esz : Nat) (ht : Ty E.P t agg size bytes z) (hcs : z.cells.toList.map .lit = cs) (h1 : ∀ c ∈ cs, c.one = true) (hd : okd E d = true)
    (k : WL E ops l Q (S.put d (.pt σ.length 0)) (σ ++ [⟨.own, esz, cs, []⟩])) : WL E ops (⟨d, .alloc t, ty, pos, af, none⟩ :: l) Q S σ := by
  refine wl_value rfl hd fun a w ρ hw => ?_
  have hrs := Rs.lits ρ z.cells.toList
  rw [hcs] at hrs
  refine ⟨.pointer (some ⟨w.heap.size, 0, none⟩), w.alloc (.cells z.cells t), .pt σ.length 0, _, more ρ σ.length ⟨w.heap.size, 0, z.cells.size, esz, true⟩, ?_, ?_, ?_, k⟩
  · simp [execOp, Instr.alloc, newVar, newRow, World.alloc_eq, ht.zeroValue]
  · exact .pt (more_at _ _ _)
  · have := hw.newCells cs z.cells esz t (by simpa using CellsR.of_Rs hrs h1)
    exact this

/-- Where a struct's field lies. -/
class FieldAt (P : Program) (s : TypeId) (i : Nat) (off : outParam Nat) : Prop where
  ok : ∃ (fs : Array Field) (f : Field), P.underlying s = some (.struct fs) ∧ fs[i]? = some f ∧ f.offset = off ∧ ∃ agg size bytes z, Ty P f.type agg size bytes z ∧ size ≠ 0
/-- The address of a field. -/
theorem po_fieldAddr {s : TypeId} {i id off fo : Nat} (hx : S.ev x = some (.pt id off)) (hf : FieldAt E.P s i fo) :
    PO E S σ n0 ⟨d, .fieldAddr s x i, ty, pos, af, g⟩ (.pt id (off + fo)) := by
  intro a w ρ W0 hw hag hn
  obtain ⟨fs, f, hs, hfi, rfl, agg, size, bytes, z, ht, hz⟩ := hf.ok
  have h1 := hw.ev hx
  generalize hv : a.eval x = v at h1
  cases h1 with
  | @pt _ _ p hp =>
    refine ⟨.pointer (some ⟨p.blk, p.off + off + f.offset, none⟩), by rw [Nat.add_assoc]; exact .pt hp, fun w' _ => ?_⟩
    simp only [execOp, hv, Instr.fieldAt, underlying, Sem.run_bind, run_program, Result.andThen_ok, hs, Sem.run_pure, hfi, Instr.sureAddr, fieldPlace, ht.sizeOf, if_neg hz, addr_add]

/-- The address of an element. -/
theorem po_indexAddr {t e : TypeId} {id off len : Nat} {i : Int} {o : Ob} {agg : Bool} {size bytes : Nat} {z : Value} (hx : S.ev x = some (.sl id off len)) (hy : S.ev y = some (.lit (.int .i64 i))) (ht : E.P.underlying t = some (.slice e)) (he : Ty E.P e agg size bytes z)
    (h0 : 0 ≤ i) (h1 : i < (len : Int)) :
    PO E S σ n0 ⟨d, .indexAddr t x y, ty, pos, af, g⟩ (.pt id (off + i.toNat * size)) := by
  intro a w ρ W0 hw hag hn
  have e1 := hw.ev hx
  have e2 := R_lit (hw.ev hy)
  generalize hv : a.eval x = v at e1
  cases e1 with
  | @sl _ _ _ cap p hp hle hroom =>
    refine ⟨.pointer (some ⟨p.blk, p.off + off + i.toNat * size, none⟩), by rw [Nat.add_assoc]; exact .pt hp, fun w' _ => ?_⟩
    simp only [execOp, hv, e2, Instr.indexAt, asIntOf, underlying, Sem.run_bind, run_program, Result.andThen_ok, ht, Sem.run_pure, he.sizeOf, addr_add]
    rw [if_pos ⟨h0, h1⟩]
    simp only [Sem.run_bind, he.sizeOf, Result.andThen_ok, Sem.run_pure, addr_add]

/-- How long a slice is. -/
theorem po_len {t ri : TypeId} {id off len : Nat} {e : TypeId} (hx : S.ev x = some (.sl id off len)) (ht : E.P.underlying t = some (.slice e)) :
    PO E S σ n0 ⟨d, .call ⟨.builtin .len, #[x], #[t]⟩, ty, pos, af, g⟩ (.lit (.int .i64 (len : Int))) := by
  intro a w ρ W0 hw hag hn
  have e1 := hw.ev hx
  generalize hv : a.eval x = v at e1
  cases e1 with
  | @sl _ _ _ cap p hp hle hroom =>
    refine ⟨_, .lit _, fun w' _ => ?_⟩
    simp [execOp, resolve, invoke, builtin, Builtin.len_, hv, underlying, ht, goInt]
theorem po_len_str {t : TypeId} {s : ByteArray} (hx : S.ev x = some (.lit (.string s))) (ht : E.P.underlying t = some .string) :
    PO E S σ n0 ⟨d, .call ⟨.builtin .len, #[x], #[t]⟩, ty, pos, af, g⟩ (.lit (.int .i64 (s.size : Int))) := by
  intro a w ρ W0 hw hag hn
  have e1 := R_lit (hw.ev hx)
  refine ⟨_, .lit _, fun w' _ => ?_⟩
  simp [execOp, resolve, invoke, builtin, Builtin.len_, e1, underlying, ht, goInt]

theorem po_binOp {op : BinOp} {xt yt : TypeId} {a b z : Value} (hx : S.ev x = some (.lit a)) (hy : S.ev y = some (.lit b)) (hz : binLit op a b = some z) :
    PO E S σ n0 ⟨d, .binOp op xt x y yt, ty, pos, af, g⟩ (.lit z) := by
  intro A w ρ W0 hw hag hn
  refine ⟨z, .lit _, fun w' _ => ?_⟩
  have e1 := R_lit (hw.ev hx)
  have e2 := R_lit (hw.ev hy)
  have := run_binLit (P := E.P) (w := w') (t := xt) (x := x) (y := y) hz
  simp only [execOp, e1, e2]
  rw [Sem.run_bind, this]
  rfl
theorem po_not {xt : TypeId} {b : Bool} (hx : S.ev x = some (.lit (.bool b))) :
    PO E S σ n0 ⟨d, .unOp .not xt x, ty, pos, af, g⟩ (.lit (.bool !b)) := by
  intro a w ρ W0 hw hag hn
  refine ⟨_, .lit _, fun w' _ => ?_⟩
  simp [execOp, R_lit (hw.ev hx), Op.unary]
theorem po_neg {xt : TypeId} {kd : IntKind} {n : Int} (hx : S.ev x = some (.lit (.int kd n))) :
    PO E S σ n0 ⟨d, .unOp .neg xt x, ty, pos, af, g⟩ (.lit (.int kd (kd.wrap (0 - n)))) := by
  intro a w ρ W0 hw hag hn
  refine ⟨_, .lit _, fun w' _ => ?_⟩
  simp [execOp, R_lit (hw.ev hx), Op.unary, Op.intArith]
theorem po_pick {c : Operand} {b : Bool} {r : AV} (hc : S.ev c = some (.lit (.bool b))) (hr : (if b then S.ev x else S.ev y) = some r) :
    PO E S σ n0 ⟨d, .pick c x y, ty, pos, af, g⟩ (r) := by
  intro a w ρ W0 hw hag hn
  have e := R_lit (hw.ev hc)
  cases b with
  | true => exact ⟨a.eval x, hw.ev hr, fun w' _ => by simp [execOp, e, asBool]⟩
  | false => exact ⟨a.eval y, hw.ev hr, fun w' _ => by simp [execOp, e, asBool]⟩
theorem po_convInt {s t : TypeId} {k1 k2 : IntKind} {n : Int} (hx : S.ev x = some (.lit (.int k1 n))) (hs : E.P.underlying s = some (.int k1)) (ht : E.P.underlying t = some (.int k2)) :
    PO E S σ n0 ⟨d, .convert s t x, ty, pos, af, g⟩ (.lit (.int k2 (k2.wrap n))) := by
  intro a w ρ W0 hw hag hn
  refine ⟨_, .lit _, fun w' _ => ?_⟩
  simp [execOp, R_lit (hw.ev hx), convert, underlying, hs, ht, Conv.intToInt]
theorem po_extract {i : Nat} {rs : List AV} {r : AV} (hx : S.ev x = some (.tup rs)) (hr : rs[i]? = some r) :
    PO E S σ n0 ⟨d, .extract x i, ty, pos, af, g⟩ (r) := by
  intro a w ρ W0 hw hag hn
  have e := hw.ev hx
  generalize hv : a.eval x = v at e
  cases e with
  | tup h =>
    obtain ⟨u, h1, h2⟩ := h.get i r hr
    exact ⟨u, h2, fun w' _ => by simp [execOp, hv, Instr.extract, h1]⟩
theorem po_nilCheck {id off : Nat} (hx : S.ev x = some (.pt id off)) :
    PO E S σ n0 ⟨d, .nilCheck x, ty, pos, af, g⟩ (.pt id off) := by
  intro a w ρ W0 hw hag hn
  have e := hw.ev hx
  generalize hv : a.eval x = v at e
  cases e with
  | pt hp => exact ⟨_, .pt hp, fun w' _ => by simp [execOp, hv]⟩
theorem po_makeFunc {f : FuncId} {first caps : Array Operand} {rs : List AV} (hf : first = #[]) (hc : caps.toList.mapM S.ev = some rs) :
    PO E S σ n0 ⟨d, .makeFunc (.func f) first caps, ty, pos, af, g⟩ (.fn f rs) := by
  intro a w ρ W0 hw hag hn
  have key : ∀ (xs : List Operand) (rs : List AV), xs.mapM S.ev = some rs → Rs ρ rs (xs.map a.eval) := by
    intro xs
    induction xs with
    | nil => intro rs h; simp at h; subst h; exact .nil
    | cons x xs ih =>
      intro rs h
      rw [List.mapM_cons] at h
      cases h1 : S.ev x with
      | none => rw [h1] at h; simp at h
      | some r =>
        cases h2 : xs.mapM S.ev with
        | none => rw [h1, h2] at h; simp at h
        | some rs' =>
          rw [h1, h2] at h
          simp at h
          subst h
          exact .cons (hw.ev h1) (ih rs' h2)
  refine ⟨.func (.func f) #[] (caps.toList.map a.eval).toArray, .fn (key _ _ hc), fun w' _ => ?_⟩
  subst hf
  simp [execOp, Instr.makeFunc, ← Array.toList_map]
end
end Go.Proofs.YthbodgnoadlbcaaDoor.Asl

/- The program logic's rules for literals, made slices, cut slices and appends. -/
namespace Go.Proofs.YthbodgnoadlbcaaDoor.Asl
open Go.RowKit
set_option linter.unusedVariables false
set_option linter.unusedSimpArgs false

/-- The cells of a literal: parts laid over what is there. -/
def fillA (place : Nat → Nat) (cs : List AV) : List (Nat × AV) → List AV
  | [] => cs
  | (i, r) :: rest => fillA place (splice cs (place i) r.cells) rest

/-- A literal's parts, read off the slots. -/
def evParts (S : Slots) : List (Nat × Operand) → Option (List (Nat × AV))
  | [] => some []
  | (i, x) :: rest => match S.ev x, evParts S rest with
    | some r, some rs => some ((i, r) :: rs)
    | _, _ => none

theorem fill_R {ρ : Pl} {ev : Operand → Value} {S : Slots} (hev : ∀ x r, S.ev x = some r → R ρ r (ev x)) (place : Nat → Option (Nat × Nat)) (plA : Nat → Nat) :
    ∀ (parts : List (Nat × Operand)) (rs : List (Nat × AV)) (zs : List AV) (cells : Array Value), evParts S parts = some rs → Rs ρ zs cells.toList →
      (∀ x ∈ rs, ∃ n, place x.1 = some (plA x.1, n) ∧ x.2.cells.length = n ∧ plA x.1 + n ≤ zs.length) →
      ∃ arr, Instr.fill place cells (parts.map fun x => (x.1, ev x.2)) = some arr ∧ Rs ρ (fillA plA zs rs) arr.toList
  | [], rs, zs, cells, he, hz, hp => by
    simp [evParts] at he; subst he
    exact ⟨cells, rfl, hz⟩
  | (i, x) :: parts, rs, zs, cells, he, hz, hp => by
    unfold evParts at he
    cases hx : S.ev x with
    | none => rw [hx] at he; simp at he
    | some r =>
      cases hr : evParts S parts with
      | none => rw [hx, hr] at he; simp at he
      | some rs' =>
        rw [hx, hr] at he
        simp at he; subst he
        obtain ⟨n, h1, h2, h3⟩ := hp (i, r) (by simp)
        simp only at h1 h2 h3
        have hR := AV.cells_Rs (hev x r hx)
        have hlen := hR.length
        have hsz : cells.size = zs.length := by rw [hz.length]; simp
        have hcs : (ev x).cells.size = n := by rw [← Array.length_toList, ← hlen, h2]
        have key := Go.Great.foldl_set (plA i) (ev x).cells.toList 0 cells
        have hfold : (ev x).cells.zipIdx.foldl (fun cs (y : Value × Nat) => cs.setIfInBounds (plA i + y.2) y.1) cells = ((ev x).cells.toList.zipIdx 0).foldl (fun cs (y : Value × Nat) => cs.setIfInBounds (plA i + y.2) y.1) cells := by
          rw [← Array.foldl_toList, Array.toList_zipIdx]
        obtain ⟨k1, k2⟩ := key
        rw [← hfold] at k1 k2
        generalize hA1 : (ev x).cells.zipIdx.foldl (fun cs (y : Value × Nat) => cs.setIfInBounds (plA i + y.2) y.1) cells = A1 at k1 k2
        have hnew : Rs ρ (splice zs (plA i) r.cells) A1.toList := by
          refine Rs.of_get (by rw [splice_length (by omega)]; have e_ : A1.toList.length = A1.size := Array.length_toList; omega) fun j y hy => ?_
          rw [splice_get (by omega)] at hy
          simp only [Array.getElem?_toList]
          rw [k2 j]
          simp only [Nat.add_zero, Array.length_toList, hcs]
          by_cases g1 : j < plA i
          · rw [if_pos g1] at hy
            rw [if_neg (by omega)]
            obtain ⟨v, q1, q2⟩ := hz.get j y hy
            exact ⟨v, by simpa using q1, q2⟩
          · rw [if_neg g1] at hy
            by_cases g2 : j < plA i + r.cells.length
            · rw [if_pos g2] at hy
              rw [if_pos ⟨by omega, by omega, by omega⟩]
              exact hR.get _ y hy
            · rw [if_neg g2] at hy
              rw [if_neg (by omega)]
              obtain ⟨v, q1, q2⟩ := hz.get j y hy
              exact ⟨v, by simpa using q1, q2⟩
        obtain ⟨arr, a1, a2⟩ := fill_R hev place plA parts rs' _ _ hr hnew (fun y hy => by
          obtain ⟨m, m1, m2, m3⟩ := hp y (by simp [hy])
          exact ⟨m, m1, m2, by rw [splice_length (by omega)]; exact m3⟩)
        refine ⟨arr, ?_, a2⟩
        simp only [List.map_cons]
        unfold Instr.fill
        simp only [h1]
        rw [if_neg (by simp [hcs]; omega), hA1]
        exact a1

section
variable {E : Env} {ops : Array Oper} {l : List Oper} {Q : Exit → Slots → Store → Prop} {S : Slots} {σ : Store} {d : Option Tmp} {ty : TypeId} {pos : String} {af : Array Edge} {g : Option (Nat × Bool)} {n0 : Nat} {x y : Operand}

/-- Where a struct's fields lie, and how many cells each has. -/
class StructAt (P : Program) (t : TypeId) (places : outParam (List (Nat × Nat))) : Prop where
  ok : ∃ (fs : Array Field), P.underlying t = some (.struct fs) ∧ ∀ w : World, (fs.mapM (fun f => do pure (f.offset, ← sizeOf f.type)) : Sem (Array (Nat × Nat))).run P w = .ok places.toArray w
/-- A struct that is written down: 'places' tells where each field lies and how many cells it has. -/
theorem po_build {t : TypeId} {parts : Array (Nat × Operand)} {rs : List (Nat × AV)} {agg : Bool} {size bytes : Nat} {z : Value} {places : List (Nat × Nat)} {cs : List AV} (hst : StructAt E.P t places) (ht : Ty E.P t agg size bytes z)
    (hp : evParts S parts.toList = some rs) 
    (hok : ∀ x ∈ rs, ∃ o n, places[x.1]? = some (o, n) ∧ x.2.cells.length = n ∧ o + n ≤ z.cells.size) (hcs : fillA (fun i => (places[i]?.getD (0, 0)).1) (z.cells.toList.map .lit) rs = cs) :
    PO E S σ n0 ⟨d, .build t parts, ty, pos, af, g⟩ (.agg cs) := by
  intro a w ρ W0 hw hag hn
  obtain ⟨fs, hs, hpl⟩ := hst.ok
  obtain ⟨arr, h1, h2⟩ := fill_R (ρ := ρ) (ev := a.eval) (S := S) (fun x r hx => hw.ev hx) (fun i => places.toArray[i]?) (fun i => (places[i]?.getD (0, 0)).1) parts.toList rs (z.cells.toList.map .lit) z.cells hp (Rs.lits ρ _) (fun x hx => by
    obtain ⟨o, n, e1, e2, e3⟩ := hok x hx
    exact ⟨n, by simp [e1], e2, by simpa [e1] using e3⟩)
  refine ⟨.agg arr, ?_, fun w' _ => ?_⟩
  rotate_left
  · simp only [execOp, Instr.build, Sem.run_bind, ht.zeroValue, Result.andThen_ok, underlying, run_program, hs, Sem.run_pure, hpl, Array.toList_map]
    rw [show List.map (fun x => (x.1, a.eval x.2)) parts.toList = parts.toList.map fun x => (x.1, a.eval x.2) from rfl, h1]
    rfl
  · rw [← hcs]
    simpa using R.agg h2

/-- A slice that is written down. -/
theorem wl_buildSlice {t e : TypeId} {len : Nat} {parts : Array (Nat × Operand)} {rs : List (Nat × AV)} {agg : Bool} {size bytes : Nat} {z : Value} {cs : List AV} (ht : E.P.underlying t = some (.slice e)) (he : Ty E.P e agg size bytes z) (hz : z.cells.size = size) (hz1 : ∀ v ∈ z.cells.toList, v.oneCell' = true)
    (hsmall : len * size ≤ 16777216) (hp : evParts S parts.toList = some rs) (hok : ∀ x ∈ rs, x.2.cells.length = size ∧ x.1 * size + size ≤ len * size ∧ ∀ c ∈ x.2.cells, c.one = true)
    (hcs : fillA (fun i => i * size) ((List.range (len * size)).map fun i => AV.lit (z.cells.toList.getD (i % size) undef)) rs = cs) (hd : okd E d = true)
    (k : WL E ops l Q (S.put d (.sl σ.length 0 len)) (σ ++ [⟨.own, size, cs, []⟩])) : WL E ops (⟨d, .buildSlice t len parts, ty, pos, af, none⟩ :: l) Q S σ := by
  refine wl_value rfl hd fun a w ρ hw => ?_
  have hz0 : ∀ i, i < len * size → z.cells[i % size]! = z.cells.toList.getD (i % size) undef := by
    intro i hi
    have hs : 0 < size := by rcases Nat.eq_zero_or_pos size with h | h; · simp [h] at hi
                             · exact h
    have hm := Nat.mod_lt i hs
    rw [getElem!_pos z.cells _ (by omega)]
    simp [List.getD_eq_getElem?_getD, hz, hm]
  have hbase : ∀ (f : Nat → Value), Rs ρ ((List.range (len * size)).map fun i => AV.lit (f i)) (((Array.range (len * size)).map f).toList) := by
    intro f
    simp only [Array.toList_map, Array.toList_range]
    have := Rs.lits ρ ((List.range (len * size)).map f)
    rw [List.map_map] at this
    exact this
  have hzr : (if len * size = 0 then (#[] : Array Value) else z.cells) = z.cells ∨ len * size = 0 := by by_cases h : len * size = 0 <;> simp [h]
  let Z : Array Value := (Array.range (len * size)).map (fun i => z.cells.toList.getD (i % size) undef)
  obtain ⟨arr, h1, h2⟩ := fill_R (ρ := ρ) (ev := a.eval) (S := S) (fun x r hx => hw.ev hx) (fun i => some (i * size, size)) (fun i => i * size) parts.toList rs _ Z hp (hbase _) (fun x hx => by
    obtain ⟨e1, e2, _⟩ := hok x hx
    exact ⟨size, rfl, e1, by simpa using e2⟩)
  rw [hcs] at h2
  have hone : ∀ c ∈ cs, c.one = true := by
    rw [← hcs]
    have gen : ∀ (rs : List (Nat × AV)) (zs : List AV), (∀ c ∈ zs, c.one = true) → (∀ x ∈ rs, ∀ c ∈ x.2.cells, c.one = true) → ∀ c ∈ fillA (fun i => i * size) zs rs, c.one = true := by
      intro rs
      induction rs with
      | nil => intro zs h _ c hc; exact h c hc
      | cons r rs ih =>
        intro zs h h' c hc
        refine ih _ ?_ (fun x hx => h' x (by simp [hx])) c hc
        intro c hc
        unfold splice at hc
        simp only [List.append_assoc, List.mem_append] at hc
        rcases hc with hc | hc | hc
        · exact h c (List.mem_of_mem_take hc)
        · exact h' r (by simp) c hc
        · exact h c (List.mem_of_mem_drop hc)
    refine gen rs _ ?_ (fun x hx => (hok x hx).2.2)
    intro c hc
    simp only [List.mem_map, List.mem_range] at hc
    obtain ⟨i, hi, rfl⟩ := hc
    have hs : 0 < size := by rcases Nat.eq_zero_or_pos size with h | h; · simp [h] at hi
                             · exact h
    have hm := Nat.mod_lt i hs
    have : z.cells.toList.getD (i % size) undef ∈ z.cells.toList := by
      rw [List.getD_eq_getElem?_getD, List.getElem?_eq_getElem (by simp; omega)]
      simp
    have := hz1 _ this
    revert this
    cases z.cells.toList.getD (i % size) undef <;> simp [AV.one, Value.oneCell']
  have hsize : arr.size = len * size := by
    have := h2.length
    rw [← hcs] at this
    have g : ∀ (rs : List (Nat × AV)) (zs : List AV), (∀ x ∈ rs, x.2.cells.length = size ∧ x.1 * size + size ≤ zs.length) → (fillA (fun i => i * size) zs rs).length = zs.length := by
      intro rs
      induction rs with
      | nil => intro zs _; rfl
      | cons r rs ih =>
        intro zs h'
        obtain ⟨e1, e2⟩ := h' r (by simp)
        unfold fillA
        rw [ih _ (fun x hx => by rw [splice_length (by omega)]; exact h' x (by simp [hx])), splice_length (by omega)]
    rw [g rs _ (fun x hx => ⟨(hok x hx).1, by simpa using (hok x hx).2.1⟩)] at this
    simpa using this.symm
  refine ⟨.slice (some ⟨w.heap.size, 0, none⟩) len len, w.alloc (.cells arr e), .sl σ.length 0 len, _, more ρ σ.length ⟨w.heap.size, 0, arr.size, size, true⟩, ?_, ?_, ?_, k⟩
  · have hfill : Instr.fill (fun i => some (i * size, size)) ((Array.range (len * size)).map (fun i => (if len * size = 0 then (#[] : Array Value) else z.cells)[i % (if len * size = 0 then (#[] : Array Value) else z.cells).size]!)) (parts.toList.map fun x => (x.1, a.eval x.2)) = some arr := by
      rw [← h1]
      congr 1
      by_cases h0 : len * size = 0
      · simp [Z, h0]
      · simp only [Z, if_neg h0]
        apply Array.ext (by simp)
        intro i hi1 hi2
        simp only [Array.getElem_map, Array.getElem_range]
        rw [hz]
        exact hz0 i (by simpa using hi1)
    by_cases h0 : len * size = 0
    · simp only [h0, if_true] at hfill
      simp only [execOp, Instr.buildSlice, underlying, Sem.run_bind, run_program, Result.andThen_ok, ht, Sem.run_pure, he.sizeOf, h0, if_true, Array.toList_map]
      rw [if_neg (by omega)]
      simp only [Sem.run_bind, Sem.run_pure, Result.andThen_ok]
      rw [hfill]
      simp [newRow, World.alloc_eq]
    · simp only [h0, if_false] at hfill
      simp only [execOp, Instr.buildSlice, underlying, Sem.run_bind, run_program, Result.andThen_ok, ht, Sem.run_pure, he.sizeOf, h0, if_false, Array.toList_map, he.zeroValue]
      rw [if_neg (by omega)]
      simp only [Sem.run_bind, Sem.run_pure, Result.andThen_ok, he.zeroValue]
      rw [hfill]
      simp [newRow, World.alloc_eq]
  · refine R.sl (p := ⟨w.heap.size, 0, arr.size, size, true⟩) (more_at _ _ _) (Nat.le_refl _) ?_
    simp [hsize]
  · exact hw.newCells cs arr size e (by simpa using CellsR.of_Rs h2 hone)
end
end Go.Proofs.YthbodgnoadlbcaaDoor.Asl

/- The program logic's rules for appends, made slices, cut slices and strings. -/
namespace Go.Proofs.YthbodgnoadlbcaaDoor.Asl
open Go.RowKit
set_option linter.unusedVariables false
set_option linter.unusedSimpArgs false

def Ob.killed (o : Ob) : Ob := { o with kind := .dead }

theorem Sim.kill {base : Nat} {ρ : Pl} {σ : Store} {w : World} (h : Sim base ρ σ w) {id : Nat} {o : Ob} (ho : σ[id]? = some o) : Sim base ρ (σ.set id o.killed) w := by
  have key : ∀ (i : Nat) (x : Ob), (σ.set id o.killed)[i]? = some x → (i = id ∧ x = o.killed) ∨ (i ≠ id ∧ σ[i]? = some x) := by
    intro i x hx
    rw [List.getElem?_set] at hx
    by_cases e : id = i
    · subst e
      rw [if_pos rfl] at hx
      split at hx
      · cases hx; exact .inl ⟨rfl, rfl⟩
      · cases hx
    · rw [if_neg e] at hx; exact .inr ⟨fun z => e z.symm, hx⟩
  refine ⟨fun i q hq => by simpa using h.dom i q hq, ?_, ?_, h.size, h.le⟩
  · intro i x q hx hq
    rcases key i x hx with ⟨rfl, rfl⟩ | ⟨_, hx'⟩
    · unfold ObRel; simp [Ob.killed]
    · exact h.obs i x q hx' hq
  · intro i j x y q q' hx hy lx ly hq hq' e
    rcases key i x hx with ⟨rfl, rfl⟩ | ⟨hi, hx'⟩
    · rcases lx with l | l <;> simp [Ob.killed] at l
    · rcases key j y hy with ⟨rfl, rfl⟩ | ⟨hj, hy'⟩
      · rcases ly with l | l <;> simp [Ob.killed] at l
      · exact h.inj i j x y q q' hx' hy' lx ly hq hq' e
theorem Ctx.kill {E : Env} {S : Slots} {σ : Store} {a : Act} {w : World} {ρ : Pl} (h : Ctx E S σ a w ρ) {id : Nat} {o : Ob} (ho : σ[id]? = some o) : Ctx E S (σ.set id o.killed) a w ρ :=
  { h with sim := h.sim.kill ho, n₀_le := by simpa using h.n₀_le }

/-- An object takes over a block that nobody else holds. -/
theorem Sim.adopt {base : Nat} {ρ : Pl} {σ : Store} {w w' : World} (h : Sim base ρ σ w) (o : Ob) (p : Place) (hfree : ∀ (i : Nat) (x : Ob) (q : Place), σ[i]? = some x → ρ i = some q → x.live → q.blk ≠ p.blk) (hbase : base ≤ p.blk) (hlt : p.blk < w.heap.size)
    (hsz : w'.heap.size = w.heap.size) (hb : ∀ k, k ≠ p.blk → w'.heap[k]? = w.heap[k]?) (ho : ObRel base (more ρ σ.length p) o p w') : Sim base (more ρ σ.length p) (σ ++ [o]) w' := by
  have hle := more_le h p
  have hold : ∀ i q, more ρ σ.length p i = some q → i ≠ σ.length → ρ i = some q := by
    intro i q hq hi
    simpa [more, hi] using hq
  refine ⟨?_, ?_, ?_, ?_, by rw [hsz]; exact h.le⟩
  · intro i q hq
    by_cases e : i = σ.length
    · simp; omega
    · have := h.dom i q (hold i q hq e); simp; omega
  · intro i o' q ho' hq
    by_cases e : i = σ.length
    · subst e
      rw [more_at] at hq; cases hq
      simp at ho'; subst ho'; exact ho
    · have hq' := hold i q hq e
      have hi := h.dom i q hq'
      rw [List.getElem?_append_left hi] at ho'
      have hx := h.obs i o' q ho' hq'
      rcases Kind.cases o' with hk | hk | hk
      · unfold ObRel; rw [hk]; trivial
      · exact hx.of_block hle (hb _ (by have := hx.ro_lt hk; omega))
      · exact hx.of_block hle (hb _ (hfree i o' q ho' hq' hk))
  · intro i j o1 o2 p1 p2 h1 h2 l1 l2 q1 q2 e
    by_cases ei : i = σ.length <;> by_cases ej : j = σ.length
    · omega
    · exfalso
      have k2 := hold j p2 q2 ej
      rw [List.getElem?_append_left (h.dom j p2 k2)] at h2
      rw [ei, more_at] at q1; cases q1
      exact hfree j o2 p2 h2 k2 l2 e.symm
    · exfalso
      have k1 := hold i p1 q1 ei
      rw [List.getElem?_append_left (h.dom i p1 k1)] at h1
      rw [ej, more_at] at q2; cases q2
      exact hfree i o1 p1 h1 k1 l1 e
    · have k1 := hold i p1 q1 ei
      have k2 := hold j p2 q2 ej
      rw [List.getElem?_append_left (h.dom i p1 k1)] at h1
      rw [List.getElem?_append_left (h.dom j p2 k2)] at h2
      exact h.inj i j o1 o2 p1 p2 h1 h2 l1 l2 k1 k2 e
  · intro i q hq
    rw [hsz]
    by_cases e : i = σ.length
    · rw [e, more_at] at hq; cases hq; exact hlt
    · exact h.size i q (hold i q hq e)

theorem set_length_eq (σ : Store) (id : Nat) (o : Ob) : (σ.set id o).length = σ.length := by simp

/-- An own object grows in its block: it dies, and a new one has its place. -/
theorem Ctx.grow {E : Env} {S : Slots} {σ : Store} {a : Act} {w w' : World} {ρ : Pl} (h : Ctx E S σ a w ρ) {id : Nat} {o : Ob} {p : Place} (ho : σ[id]? = some o) (hp : ρ id = some p) (hk : o.kind = .own) (hm : E.may id) (o' : Ob)
    (hos : w'.os = w.os) (htape : w'.tape = w.tape) (hout : w'.output = w.output)
    (hsz : w'.heap.size = w.heap.size) (hb : ∀ k, k ≠ p.blk → w'.heap[k]? = w.heap[k]?) (hr : ObRel E.base (more ρ σ.length p) o' p w') :
    Ctx E S (σ.set id o.killed ++ [o']) a w' (more ρ σ.length p) := by
  have hob := h.sim.obs id o p ho hp
  obtain ⟨hown, hbase⟩ := Ob.live_own hob (.inl hk)
  have hle := more_le h.sim p
  have hold : ∀ i q, more ρ σ.length p i = some q → i ≠ σ.length → ρ i = some q := by
    intro i q hq hi
    simpa [more, hi] using hq
  have hmay := h.may id p hp hown hm
  have hfree : ∀ (i : Nat) (x : Ob) (q : Place), (σ.set id o.killed)[i]? = some x → ρ i = some q → x.live → q.blk ≠ p.blk := by
    intro i x q hx hq hl e
    rw [List.getElem?_set] at hx
    by_cases ei : id = i
    · subst ei
      rw [if_pos rfl] at hx
      split at hx
      · cases hx; rcases hl with l | l <;> simp [Ob.killed] at l
      · cases hx
    · rw [if_neg ei] at hx
      exact ei (h.sim.inj i id x o q p hx ho hl (.inl hk) hq hp e).symm
  have hsim := (h.sim.kill ho).adopt (w' := w') o' p hfree hbase (h.sim.size id p hp) hsz hb (by rw [set_length_eq]; exact hr)
  rw [set_length_eq] at hsim
  refine { defers := h.defers, size := h.size, slots := ?_, sim := hsim, fr := h.fr.trans ⟨hos, htape, hout, by omega, fun k hk' hB => hb k ?_⟩, le := h.le.trans hle, old := ?_, may := ?_, fresh := ?_, n₀_le := ?_, N_le := by rw [hsz]; exact h.N_le, later := h.later }
  · intro t v ht
    obtain ⟨u, h1, h2⟩ := h.slots t v ht
    exact ⟨u, h1, h2.mono hle⟩
  · intro e; subst e
    rcases hmay with k1 | k1
    · exact hB k1
    · omega
  · intro i q hq hi
    exact h.old i q (hold i q hq (by have := h.n₀_le; omega)) hi
  · intro i q hq h1 h2
    by_cases e : i = σ.length
    · rw [e, more_at] at hq; cases hq; exact hmay
    · exact h.may i q (hold i q hq e) h1 h2
  · intro i q hq h1
    by_cases e : i = σ.length
    · rw [e, more_at] at hq; cases hq; exact ⟨hown, hmay⟩
    · exact h.fresh i q (hold i q hq e) h1
  · have := h.n₀_le; simp; omega

theorem run_loadCells {P : Program} {w : World} {b o n : Nat} {us : List Value} (hl : us.length = n) (h : ∀ j u, us[j]? = some u → w.cell? ⟨b, o + j, none⟩ = some u) : (loadCells ⟨b, o, none⟩ n).run P w = .ok us.toArray w := by
  unfold loadCells
  rw [run_loadCellsFrom n 0 #[] us hl (fun j u hu => by have := h j u hu; rw [← this]; congr 2; omega)]
  simp

/-- What is appended: some elements, read off memory. -/
structure Appends (P : Program) (σ : Store) (size n : Nat) (r : AV) (cs : List AV) : Prop where
  len : cs.length = n * size
  one : ∀ c ∈ cs, c.one = true
  read : ∀ (base : Nat) (ρ : Pl) (w : World) (v : Value), Sim base ρ σ w → R ρ r v → (Builtin.lenOf v).run P w = .ok n w ∧ ∃ us, Rs ρ cs us ∧ (Builtin.firstCells size n v).run P w = .ok us.toArray w

theorem Appends.row {P : Program} {σ : Store} {size id off n : Nat} {o : Ob} {cs : List AV} (ho : σ[id]? = some o) (hl : o.readable) (hc : cut o off (n * size) = cs) (hn : cs.length = n * size) (h1 : ∀ c ∈ cs, c.one = true) : Appends P σ size n (.sl id off n) cs := by
  refine ⟨hn, h1, fun base ρ w v hs hr => ?_⟩
  cases hr with
  | @sl _ _ _ cap p hp hle hroom =>
    obtain ⟨us, h2, h3, _, h4⟩ := hs.cut ho hp hl hc
    exact ⟨rfl, us, h2, run_loadCells (by omega) h4⟩
theorem Appends.nil {P : Program} {σ : Store} {size : Nat} {c : Nat} : Appends P σ size 0 (.lit (.slice none 0 c)) [] :=
  ⟨by simp, by simp, fun base ρ w v hs hr => by cases hr; exact ⟨rfl, [], .nil, rfl⟩⟩

section
variable {E : Env} {ops : Array Oper} {l : List Oper} {Q : Exit → Slots → Store → Prop} {S : Slots} {σ : Store} {d : Option Tmp} {ty : TypeId} {pos : String} {af : Array Edge} {x y : Operand}

theorem zeroCells_size (z : Array Value) (n : Nat) : (Builtin.zeroCells z n).size = n * z.size := by simp [Builtin.zeroCells]

theorem Ty.get {P : Program} {t : TypeId} {agg : Bool} {size bytes : Nat} {z : Value} (h : Ty P t agg size bytes z) : ∃ i, P.info? t = some i ∧ i.zero = some z ∧ i.size = size ∧ i.bytes = bytes := by
  have := h.info
  cases hi : P.info? t with
  | none => rw [hi] at this; cases this
  | some i => rw [hi] at this; simp at this; exact ⟨i, rfl, this.1, this.2.1, this.2.2⟩

/-- The machine's append, where it fits. -/
theorem run_append_fit {P : Program} {w w' : World} {t ty e : TypeId} {inf : TypeInfo} {ad : Addr} {len cap n size : Nat} {u : Value} {us : List Value} (ht : P.underlying t = some (.slice e)) (hi : P.info? e = some inf) (hs : inf.size = size)
    (hl : (Builtin.lenOf u).run P w = .ok n w) (hf : (Builtin.firstCells size n u).run P w = .ok us.toArray w) (hfit : len + n ≤ cap) (hst : (storeCells (ad.add (len * size)) us 0).run P w = .ok () w') :
    (Builtin.append_ #[t, t] ty #[.slice (some ad) len cap, u]).run P w = .ok (.slice (some ad) (len + n) cap) w' := by
  subst hs
  simp [Builtin.append_, run_underlying ht, sizeOf, typeInfo, hi, hl, hfit, hf, hst]
theorem run_append_new {P : Program} {w : World} {t ty e : TypeId} {inf : TypeInfo} {ad : Option Addr} {len cap n size : Nat} {u z : Value} {us olds : List Value} (ht : P.underlying t = some (.slice e)) (hi : P.info? e = some inf) (hs : inf.size = size) (hz : inf.zero = some z)
    (hl : (Builtin.lenOf u).run P w = .ok n w) (hf : (Builtin.firstCells size n u).run P w.drew = .ok us.toArray w.drew) (ho : (Builtin.firstCells size len (.slice ad len cap)).run P w.drew = .ok olds.toArray w.drew) (hfit : ¬ len + n ≤ cap)
    (h48 : Builtin.nextslicecap (len + n) cap * inf.bytes ≤ 281474976710656) (h0 : ((len + n : Nat) : Int) ≤ 9223372036854775807) :
    (Builtin.append_ #[t, t] ty #[.slice ad len cap, u]).run P w = .ok (.slice (some ⟨w.heap.size, 0, none⟩) (len + n) (grownCap w (len + n) cap e)) (w.drew.alloc (.cells (olds.toArray ++ us.toArray ++ Builtin.zeroCells z.cells (grownCap w (len + n) cap e - (len + n))) e)) := by
  subst hs
  have h48' : ¬ (281474976710656 < Builtin.nextslicecap (len + n) cap * inf.bytes) := by omega
  have h0' : ¬ (9223372036854775807 < ((len : Int) + (n : Int))) := by omega
  simp [Builtin.append_, run_underlying ht, sizeOf, typeInfo, zeroValue, hi, hz, hl, hfit, h0', h48', Question.forced, hf, ho, newRow, grownCap]
  congr 2
  apply Array.ext'
  simp [List.append_assoc]
theorem grownCap_ge (w : World) (need old : Nat) (e : TypeId) : need ≤ grownCap w need old e := by simp only [grownCap, Question.cut]; omega

/-- An append to a slice of the run's own. -/
theorem wl_append {t e : TypeId} {id len n : Nat} {o : Ob} {r : AV} {cs : List AV} {agg : Bool} {size bytes : Nat} {z : Value} (hx : S.ev x = some (.sl id 0 len)) (hy : S.ev y = some r) (ht : E.P.underlying t = some (.slice e)) (he : Ty E.P e agg size bytes z) (hz : z.cells.size = size) (hb0 : 0 < bytes)
    (ho : σ[id]? = some o) (hk : o.kind = .own) (hesz : o.esz = size) (hlen : o.cells.length = len * size) (ha : Appends E.P σ size n r cs) (hm : E.may id) (hlim : (len + n) * bytes ≤ 140737488355328) (hd : okd E d = true)
    (k : WL E ops l Q (S.put d (.sl σ.length 0 (len + n))) (σ.set id o.killed ++ [⟨.own, size, o.cells ++ cs, []⟩])) :
    WL E ops (⟨d, .call ⟨.builtin .append, #[x, y], #[t, t]⟩, ty, pos, af, none⟩ :: l) Q S σ := by
  refine wl_value rfl hd fun a w ρ hw => ?_
  have e1 := hw.ev hx
  have e2 := hw.ev hy
  generalize hv : a.eval x = v at e1
  generalize hu : a.eval y = u at e2
  obtain ⟨hlenOf, us, hus, hfirst⟩ := ha.read _ _ _ _ hw.sim e2
  have husl := hus.length
  have hrun : ∀ r : Unit, (execOp a.eval ⟨d, .call ⟨.builtin .append, #[x, y], #[t, t]⟩, ty, pos, af, none⟩).run E.P w = ((Builtin.append_ #[t, t] ty #[v, u]).run E.P w).andThen fun v w => .ok (.value v) w := by
    intro _
    simp [execOp, resolve, invoke, builtin, hv, hu]
  cases e1 with
  | @sl _ _ _ cap p hp hle hroom =>
    have hob := hw.sim.obs id o p ho hp
    unfold ObRel at hob; rw [hk] at hob
    obtain ⟨q1, q2, q3, q4, arr, ety, q5, q6, q7, q8⟩ := hob
    obtain ⟨inf, i1, i2, i3, i4⟩ := he.get
    rw [q2, hesz] at hroom
    by_cases hfit : len + n ≤ cap
    · -- it fits
      have hcap : (len + n) * size ≤ cap * size := Nat.mul_le_mul_right _ hfit
      have hcs' : len * size + n * size ≤ arr.size := by rw [Nat.add_mul] at hcap; omega
      obtain ⟨w', r1, r2, r3, r4, r5, r6, arr', r7, r8, r9, r10⟩ := storeCells_own (P := E.P) us 0 w p.blk (len * size) arr ety q5 (by rw [← husl, ha.len]; omega) (hus.one ha.one)
      simp only [Nat.add_zero] at r9 r10
      refine ⟨.slice (some ⟨p.blk, p.off + 0, none⟩) (len + n) cap, w', .sl σ.length 0 (len + n), _, more ρ σ.length p, ?_, ?_, hw.grow ho hp hk hm _ r2 r3 r4 r5 r6 ?_, k⟩
      · rw [hrun (), run_append_fit ht i1 i3 hlenOf hfirst hfit (w' := w') (by rw [addr_add, q4]; simpa using r1)]
        rfl
      · exact .sl (more_at _ _ _) hfit (by rw [q2, hesz]; exact hroom)
      · unfold ObRel
        simp only
        refine ⟨q1, by rw [q2, hesz], q3, q4, arr', ety, r7, by rw [r8]; exact q6, by simp [ha.len, hlen, r8]; omega, fun i c hc => ?_⟩
        rw [List.getElem?_append] at hc
        by_cases g1 : i < o.cells.length
        · rw [if_pos g1] at hc
          obtain ⟨s1, u', s2, s3⟩ := q8 i c hc
          exact ⟨s1, u', by rw [r9 i (.inl (by omega))]; exact s2, s3.mono (more_le hw.sim p)⟩
        · rw [if_neg g1] at hc
          obtain ⟨u', s2, s3⟩ := hus.get _ c hc
          refine ⟨ha.one c (List.mem_of_getElem? hc), u', ?_, s3.mono (more_le hw.sim p)⟩
          have hi : i - o.cells.length < us.length := by
            rcases Nat.lt_or_ge (i - o.cells.length) us.length with h | h
            · exact h
            · rw [List.getElem?_eq_none h] at s2; cases s2
          have := r10 (i - o.cells.length) hi
          rw [show len * size + (i - o.cells.length) = i by omega] at this
          rw [this]; exact s2
    · -- a new row
      have hgrow : Builtin.nextslicecap (len + n) cap * bytes ≤ 281474976710656 := growslice_fits (by omega) hlim
      obtain ⟨olds, o1, o2, o3, o4⟩ := hw.sim.cut (off := 0) (n := o.cells.length) (cs := o.cells) ho hp (.inr hk) (by unfold cut; simp)
      have hnc := grownCap_ge w (len + n) cap e
      have hold : (Builtin.firstCells size len (.slice (some ⟨p.blk, p.off + 0, none⟩) len cap)).run E.P w.drew = .ok olds.toArray w.drew := by
        unfold Builtin.firstCells
        exact run_loadCells (by rw [o2, hlen]) (fun j u' hj => by have := o4 j u' hj; exact this)
      obtain ⟨_, us2, hus2, hfirst2⟩ := ha.read _ _ _ _ hw.drew.sim e2
      have husl2 := hus2.length
      have hC := (hw.kill ho).drew.newCells (o.cells ++ cs) (olds.toArray ++ us2.toArray ++ Builtin.zeroCells z.cells (grownCap w (len + n) cap e - (len + n))) size e ⟨by simp [zeroCells_size, o2, ← husl2], fun i c hc => by
        rw [List.getElem?_append] at hc
        by_cases g1 : i < o.cells.length
        · rw [if_pos g1] at hc
          obtain ⟨u', s2, s3⟩ := o1.get _ c hc
          refine ⟨o3 c (List.mem_of_getElem? hc), u', ?_, s3⟩
          rw [Array.getElem?_append, if_pos (by simp [o2]; omega), Array.getElem?_append, if_pos (by simp [o2]; omega)]
          simpa using s2
        · rw [if_neg g1] at hc
          obtain ⟨u', s2, s3⟩ := hus2.get _ c hc
          have hi : i - o.cells.length < us2.length := by
            rcases Nat.lt_or_ge (i - o.cells.length) us2.length with h | h
            · exact h
            · rw [List.getElem?_eq_none h] at s2; cases s2
          refine ⟨ha.one c (List.mem_of_getElem? hc), u', ?_, s3⟩
          rw [Array.getElem?_append, if_pos (by simp [o2]; omega), Array.getElem?_append, if_neg (by simp [o2]; omega)]
          simp only [List.size_toArray, o2]
          simpa using s2⟩
      rw [set_length_eq] at hC
      refine ⟨.slice (some ⟨w.heap.size, 0, none⟩) (len + n) (grownCap w (len + n) cap e), _, .sl σ.length 0 (len + n), _, _, ?_, ?_, hC, k⟩
      · rw [hrun (), run_append_new ht i1 i3 i2 hlenOf hfirst2 hold hfit (by rw [i4]; exact hgrow) (by
          have : len + n ≤ (len + n) * bytes := Nat.le_mul_of_pos_right _ hb0
          omega)]
        rfl
      · refine .sl (p := ⟨w.drew.heap.size, 0, _, size, true⟩) (more_at _ _ _) hnc ?_
        simp [zeroCells_size, o2, hlen, ← husl2, ha.len, hz]
        rw [Nat.sub_mul]
        have : (len + n) * size ≤ grownCap w (len + n) cap e * size := Nat.mul_le_mul_right _ hnc
        rw [Nat.add_mul] at this ⊢
        omega

/-- An append to a nil slice. -/
theorem wl_append_nil {t e : TypeId} {n : Nat} {r : AV} {cs : List AV} {agg : Bool} {size bytes : Nat} {z : Value} (hx : S.ev x = some (.lit (.slice none 0 0))) (hy : S.ev y = some r) (ht : E.P.underlying t = some (.slice e)) (he : Ty E.P e agg size bytes z) (hz : z.cells.size = size) (hb0 : 0 < bytes)
    (ha : Appends E.P σ size n r cs) (hn : 0 < n) (hlim : n * bytes ≤ 140737488355328) (hd : okd E d = true)
    (k : WL E ops l Q (S.put d (.sl σ.length 0 n)) (σ ++ [⟨.own, size, cs, []⟩])) :
    WL E ops (⟨d, .call ⟨.builtin .append, #[x, y], #[t, t]⟩, ty, pos, af, none⟩ :: l) Q S σ := by
  refine wl_value rfl hd fun a w ρ hw => ?_
  have e1 := R_lit (hw.ev hx)
  have e2 := hw.ev hy
  generalize hu : a.eval y = u at e2
  obtain ⟨hlenOf, us, hus, hfirst⟩ := ha.read _ _ _ _ hw.sim e2
  obtain ⟨_, us2, hus2, hfirst2⟩ := ha.read _ _ _ _ hw.drew.sim e2
  have husl2 := hus2.length
  obtain ⟨inf, i1, i2, i3, i4⟩ := he.get
  have hrun : (execOp a.eval ⟨d, .call ⟨.builtin .append, #[x, y], #[t, t]⟩, ty, pos, af, none⟩).run E.P w = ((Builtin.append_ #[t, t] ty #[.slice none 0 0, u]).run E.P w).andThen fun v w => .ok (.value v) w := by
    simp [execOp, resolve, invoke, builtin, e1, hu]
  have hnc := grownCap_ge w (0 + n) 0 e
  have hC := hw.drew.newCells cs (([] : List Value).toArray ++ us2.toArray ++ Builtin.zeroCells z.cells (grownCap w (0 + n) 0 e - (0 + n))) size e ⟨by simp [zeroCells_size, ← husl2], fun i c hc => by
    obtain ⟨u', s2, s3⟩ := hus2.get _ c hc
    refine ⟨ha.one c (List.mem_of_getElem? hc), u', ?_, s3⟩
    have hi : i < us2.length := by
      rcases Nat.lt_or_ge i us2.length with h | h
      · exact h
      · rw [List.getElem?_eq_none h] at s2; cases s2
    rw [Array.getElem?_append, if_pos (by simp; omega)]
    simpa using s2⟩
  refine ⟨.slice (some ⟨w.heap.size, 0, none⟩) (0 + n) (grownCap w (0 + n) 0 e), _, .sl σ.length 0 n, _, _, ?_, ?_, hC, k⟩
  · rw [hrun, run_append_new ht i1 i3 i2 hlenOf hfirst2 (olds := []) rfl (by omega) (by rw [i4]; exact growslice_fits (by omega) (by simpa using hlim)) (by
      have : n ≤ n * bytes := Nat.le_mul_of_pos_right _ hb0
      omega)]
    rfl
  · have := R.sl (ρ := more ρ σ.length ⟨w.drew.heap.size, 0, (([] : List Value).toArray ++ us2.toArray ++ Builtin.zeroCells z.cells (grownCap w (0 + n) 0 e - (0 + n))).size, size, true⟩) (id := σ.length) (off := 0) (len := 0 + n) (cap := grownCap w (0 + n) 0 e) (more_at _ _ _) hnc (by
      simp [zeroCells_size, ← husl2, ha.len, hz]
      rw [Nat.sub_mul]
      simp only [Nat.zero_add] at hnc
      have : n * size ≤ grownCap w n 0 e * size := Nat.mul_le_mul_right _ hnc
      omega)
    simpa using this
end
end Go.Proofs.YthbodgnoadlbcaaDoor.Asl

/- The program logic's rules for code and for calls. -/
namespace Go.Proofs.YthbodgnoadlbcaaDoor.Asl
open Go.RowKit
set_option linter.unusedVariables false
set_option linter.unusedSimpArgs false

section
variable {E : Env} {Q : Exit → Slots → Store → Prop} {S : Slots} {σ : Store}

/-- What follows, and otherwise Q. -/
def andThen (K : Slots → Store → Prop) (Q : Exit → Slots → Store → Prop) : Exit → Slots → Store → Prop
  | .normal, S, σ => K S σ
  | e, S, σ => Q e S σ
def inBlock (id : Nat) (Q : Exit → Slots → Store → Prop) : Exit → Slots → Store → Prop
  | .exit j, S, σ => if j = id then Q .normal S σ else Q (.exit j) S σ
  | e, S, σ => Q e S σ
def noGoto (Q : Exit → Slots → Store → Prop) : Exit → Slots → Store → Prop
  | .goto _, _, _ => False
  | e, S, σ => Q e S σ

theorem WP.mono {c : Code} {Q' : Exit → Slots → Store → Prop} (h : WP E c Q S σ) (hq : ∀ e S σ, Q e S σ → Q' e S σ) : WP E c Q' S σ :=
  fun a w ρ hc => wp_mono (h a w ρ hc) fun e a' w' ⟨S', σ', ρ', h1, h2⟩ => ⟨S', σ', ρ', hq _ _ _ h1, h2⟩
theorem WP.less {c : Code} {S' : Slots} (h : WP E c Q S σ) (hs : Sub S S') : WP E c Q S' σ := fun a w ρ hc => h a w ρ (hc.less hs)
theorem WL.less {ops : Array Oper} {l : List Oper} {S' : Slots} (h : WL E ops l Q S σ) (hs : Sub S S') : WL E ops l Q S' σ := fun a w ρ hc => h a w ρ (hc.less hs)

theorem wp_skipA (h : Q .normal S σ) : WP E .skip Q S σ := fun a w ρ hc => wp_skip ⟨S, σ, ρ, h, hc⟩
theorem wp_retA (h : Q .ret S σ) : WP E .ret Q S σ := fun a w ρ hc => wp_ret ⟨S, σ, ρ, h, hc⟩
theorem wp_exitA {id : Nat} (h : Q (.exit id) S σ) : WP E (.exit id) Q S σ := fun a w ρ hc => wp_exit ⟨S, σ, ρ, h, hc⟩
theorem wp_seqA {x y : Code} (h : WP E x (andThen (WP E y Q) Q) S σ) : WP E (.seq x y) Q S σ := by
  intro a w ρ hc
  refine wp_seq (wp_mono (h a w ρ hc) ?_)
  rintro e a' w' ⟨S', σ', ρ', h1, h2⟩
  cases e with
  | normal => exact h1 _ _ _ h2
  | exit id => exact ⟨S', σ', ρ', h1, h2⟩
  | goto l => exact ⟨S', σ', ρ', h1, h2⟩
  | ret => exact ⟨S', σ', ρ', h1, h2⟩
  | panic ch => exact ⟨S', σ', ρ', h1, h2⟩
  | outgrown => exact ⟨S', σ', ρ', h1, h2⟩
theorem wp_condA {c : Operand} {x y : Code} {b : Bool} (hb : S.ev c = some (.lit (.bool b))) (ht : b = true → WP E x Q S σ) (hf : b = false → WP E y Q S σ) : WP E (.cond c x y) Q S σ := by
  intro a w ρ hc
  exact wp_cond_split (R_lit (hc.ev hb)) (fun h => ht h a w ρ hc) (fun h => hf h a w ρ hc)
theorem wp_blockA {id : Nat} {c : Code} (h : WP E c (inBlock id Q) S σ) : WP E (.block id c) Q S σ := by
  intro a w ρ hc
  refine wp_block (wp_mono (h a w ρ hc) ?_)
  rintro e a' w' ⟨S', σ', ρ', h1, h2⟩
  cases e with
  | exit j =>
    by_cases hj : j = id
    · simp only [Exit.inBlock, inBlock, hj, if_true] at h1 ⊢; exact ⟨S', σ', ρ', h1, h2⟩
    · simp only [Exit.inBlock, inBlock, hj, if_false] at h1 ⊢; exact ⟨S', σ', ρ', h1, h2⟩
  | normal => exact ⟨S', σ', ρ', h1, h2⟩
  | goto l => exact ⟨S', σ', ρ', h1, h2⟩
  | ret => exact ⟨S', σ', ρ', h1, h2⟩
  | panic ch => exact ⟨S', σ', ρ', h1, h2⟩
  | outgrown => exact ⟨S', σ', ρ', h1, h2⟩
/-- A loop: an invariant that bears a number, which every round lowers. -/
theorem wp_loopA {c : Code} (I : Nat → Slots → Store → Prop) (n₀ : Nat) (h₀ : I n₀ S σ)
    (round : ∀ n S σ, I n S σ → WP E c (andThen (fun S' σ' => ∃ m, m < n ∧ I m S' σ') Q) S σ) : WP E (.loop c) Q S σ := by
  intro a w ρ hc
  refine wp_loop_ghost (fun n a w => ∃ S σ ρ, I n S σ ∧ Ctx E S σ a w ρ) n₀ ⟨S, σ, ρ, h₀, hc⟩ ?_
  rintro n a w ⟨S, σ, ρ, hI, hc⟩
  refine wp_mono (round n S σ hI a w ρ hc) ?_
  rintro e a' w' ⟨S', σ', ρ', h1, h2⟩
  cases e with
  | normal =>
    obtain ⟨m, hm, hI'⟩ := h1
    exact ⟨m, hm, S', σ', ρ', hI', h2⟩
  | exit id => exact ⟨S', σ', ρ', h1, h2⟩
  | goto l => exact ⟨S', σ', ρ', h1, h2⟩
  | ret => exact ⟨S', σ', ρ', h1, h2⟩
  | panic ch => exact ⟨S', σ', ρ', h1, h2⟩
  | outgrown => exact ⟨S', σ', ρ', h1, h2⟩
/-- A cut: what holds at a place. -/
theorem WP.cut {c : Code} {K : Slots → Store → Prop} (Mid : Slots → Store → Prop) (h : WP E c (andThen Mid Q) S σ) (k : ∀ S' σ', Mid S' σ' → K S' σ') : WP E c (andThen K Q) S σ :=
  h.mono fun e S' σ' h => by cases e <;> first | exact k _ _ h | exact h

theorem exit_here {id : Nat} (h : Q .normal S σ) : inBlock id Q (.exit id) S σ := by simp only [inBlock, if_true]; exact h
theorem sub_nil {S : Slots} : Sub [] S := fun t v h => by simp [Slots.get] at h
theorem sub_cons {S S' : Slots} {t : Nat} {v : AV} (h : S'.get t = some v) (hs : Sub S S') : Sub ((t, v) :: S) S' := by
  intro t' v' h'
  by_cases e : t' = t
  · subst e; rw [lookup_cons_eq] at h'; cases h'; exact h
  · rw [lookup_cons_ne e] at h'; exact hs t' v' h'

variable {ops : Array Oper} {l : List Oper} {d : Option Tmp} {ty : TypeId} {pos : String} {af : Array Edge}

/-- The operands of a call, read off the slots. -/
def evs (S : Slots) : List Operand → Option (List AV)
  | [] => some []
  | x :: xs => match S.ev x, evs S xs with
    | some r, some rs => some (r :: rs)
    | _, _ => none
theorem Ctx.evs {a : Act} {w : World} {ρ : Pl} (h : Ctx E S σ a w ρ) : ∀ {xs : List Operand} {rs : List AV}, Asl.evs S xs = some rs → Rs ρ rs (xs.map a.eval)
  | [], rs, hx => by simp [Asl.evs] at hx; subst hx; exact .nil
  | x :: xs, rs, hx => by
    unfold Asl.evs at hx
    cases h1 : S.ev x with
    | none => rw [h1] at hx; simp at hx
    | some r =>
      cases h2 : Asl.evs S xs with
      | none => rw [h1, h2] at hx; simp at hx
      | some rs' =>
        rw [h1, h2] at hx
        simp at hx; subst hx
        exact .cons (h.ev h1) (Ctx.evs h h2)

/-- What a call gives its caller. -/
theorem Ctx.called {a : Act} {w w' : World} {ρ ρ' : Pl} {σ' : Store} {T : Nat → Prop} (h : Ctx E S σ a w ρ) (hT : ∀ i, T i → E.may i) (hsim : Sim E.base ρ' σ' w') (hle : Le ρ ρ') (hlen : σ.length ≤ σ'.length)
    (hold : ∀ id p, ρ' id = some p → id < σ.length → ρ id = some p)
    (hnew : ∀ id p, ρ' id = some p → σ.length ≤ id → p.own = true ∧ ((∃ i q, T i ∧ ρ i = some q ∧ q.blk = p.blk) ∨ w.heap.size ≤ p.blk))
    (hTown : ∀ i q, T i → ρ i = some q → q.own = true)
    (hfr : Fr w.heap.size (fun b => ∃ i q, T i ∧ ρ i = some q ∧ q.own = true ∧ q.blk = b) w w') : Ctx E S σ' a w' ρ' := by
  have hblk : ∀ id p, ρ' id = some p → σ.length ≤ id → E.B p.blk ∨ E.N ≤ p.blk := by
    intro id p hp hi
    rcases (hnew id p hp hi).2 with ⟨i, q, h1, h2, h3⟩ | h1
    · rw [← h3]; exact h.may i q h2 (hTown i q h1 h2) (hT i h1)
    · exact .inr (Nat.le_trans h.N_le h1)
  refine { defers := h.defers, size := h.size, slots := ?_, sim := hsim, fr := h.fr.trans ⟨hfr.os, hfr.tape, hfr.output, hfr.size, fun k hk hB => hfr.block k (Nat.lt_of_lt_of_le hk h.N_le) ?_⟩, le := h.le.trans hle, old := ?_, may := ?_, fresh := ?_, n₀_le := Nat.le_trans h.n₀_le hlen, N_le := Nat.le_trans h.N_le hfr.size, later := h.later }
  · intro t v ht
    obtain ⟨u, h1, h2⟩ := h.slots t v ht
    exact ⟨u, h1, h2.mono hle⟩
  · rintro ⟨i, q, h1, h2, h3, rfl⟩
    rcases h.may i q h2 h3 (hT i h1) with k1 | k1
    · exact hB k1
    · omega
  · intro id p hp hi
    exact h.old id p (hold id p hp (Nat.lt_of_lt_of_le hi h.n₀_le)) hi
  · intro id p hp h1 h2
    rcases Nat.lt_or_ge id σ.length with hi | hi
    · exact h.may id p (hold id p hp hi) h1 h2
    · exact hblk id p hp hi
  · intro id p hp h1
    rcases Nat.lt_or_ge id σ.length with hi | hi
    · exact h.fresh id p (hold id p hp hi) h1
    · exact ⟨(hnew id p hp hi).1, hblk id p hp hi⟩

/-- A function that can be called: it has a body, and is none that the machine answers itself. -/
class Callable (P : Program) (f : FuncId) : Prop where
  ok : ∃ fn, P.funcs[f]? = some fn ∧ (fn.name == "runtime.NumGoroutine") = false ∧ fn.body.isNone = false

theorem wl_call {x : Operand} {args : Array Operand} {ats : Array TypeId} {f : FuncId} {caps rs : List AV} {T : Nat → Prop} {K : AV → Store → Prop} (hf : S.ev x = some (.fn f caps)) (hc : Callable E.P f) (hargs : evs S args.toList = some rs)
    (h : ACall E.P E.base f (rs ++ caps) σ T K) (hT : ∀ i, T i → E.may i ∧ ∃ o, σ[i]? = some o ∧ o.live) (hd : okd E d = true) (k : ∀ r σ', K r σ' → WL E ops l Q (S.put d r) σ') :
    WL E ops (⟨d, .call ⟨.value x, args, ats⟩, ty, pos, af, none⟩ :: l) Q S σ := by
  intro a w ρ hw
  have e1 := hw.ev hf
  have e2 := hw.evs hargs
  generalize hv : a.eval x = v at e1
  cases e1 with
  | @fn _ _ cs hcs =>
    obtain ⟨fn, hfn, hname, hbody⟩ := hc.ok
    have hrun : (execOp a.eval ⟨d, .call ⟨.value x, args, ats⟩, ty, pos, af, none⟩).run E.P w = .ok (.enter f ((args.toList.map a.eval) ++ cs).toArray) w := by
      simp only [execOp, resolve, hv, Deferred.ofValue, Sem.run_bind, Sem.run_pure, Result.andThen_ok, invoke, callFunc, run_program, hfn, hname, hbody, if_neg, Bool.false_eq_true, if_false]
      congr 2
      apply Array.ext'
      simp
    simp only [wpOpsL, Region.wanted, if_true, Oper.wp, hrun, Oper.upon]
    refine (h w ρ _ (e2.append hcs) hw.sim).mono ?_
    rintro e w' ⟨r, v, σ', ρ', rfl, hr, hK, hsim, hle, hlen, hold, hnew, hfr⟩
    have hTown : ∀ i q, T i → ρ i = some q → q.own = true := by
      intro i q hi hq
      obtain ⟨o, ho, hl⟩ := (hT i hi).2
      exact (Ob.live_own (hw.sim.obs i o q ho hq) hl).1
    exact k r σ' hK _ _ _ ((hw.called (fun i hi => (hT i hi).1) hsim hle hlen hold hnew hTown hfr).put hd hr)
end

/-- What a function's results are. -/
def ResOK (P : Program) (fn : Func) (S : Slots) (σ : Store) (r : AV) : Prop :=
  ∀ (E : Env) (a : Act) (w : World) (ρ : Pl), E.P = P → Ctx E S σ a w ρ → ∃ v, (results fn a.tmps).run P w = .ok v w ∧ R ρ r v

/-- At the end of a body. -/
def atEnd (P : Program) (fn : Func) (K : AV → Store → Prop) : Exit → Slots → Store → Prop
  | .ret, S, σ | .normal, S, σ => ∃ r, ResOK P fn S σ r ∧ K r σ
  | _, _, _ => False

theorem Ctx.getD {E : Env} {S : Slots} {σ : Store} {a : Act} {w : World} {ρ : Pl} (hc : Ctx E S σ a w ρ) {t : Nat} {x : AV} (hx : S.get t = some x) : R ρ x (a.tmps.getD t undef) := by
  obtain ⟨u, h1, h2⟩ := hc.slots t x hx
  simpa [Array.getD_eq_getD_getElem?, h1] using h2
section
variable {P : Program} {fn : Func} {S : Slots} {σ : Store}
theorem res0 (h : fn.results = #[]) : ResOK P fn S σ (.tup []) := fun E a w ρ _ hc => ⟨_, results_none h _ _ _, .tup .nil⟩
theorem res1 {t : Tmp} {x : AV} (h : fn.results = #[.tmp t]) (hx : S.get t = some x) : ResOK P fn S σ x := fun E a w ρ _ hc => ⟨_, results_tmp h _ _ _, hc.getD hx⟩
theorem res2 {t u : Tmp} {x y : AV} (h : fn.results = #[.tmp t, .tmp u]) (hx : S.get t = some x) (hy : S.get u = some y) : ResOK P fn S σ (.tup [x, y]) :=
  fun E a w ρ _ hc => ⟨_, results_tmp2 h _ _ _, .tup (.cons (hc.getD hx) (.cons (hc.getD hy) .nil))⟩
/-- A struct in memory, read whole. -/
theorem Ctx.readCell {E : Env} {a : Act} {w : World} {ρ : Pl} (hc : Ctx E S σ a w ρ) (hP : E.P = P) {c : Tmp} {t : TypeId} {id off size bytes : Nat} {z : Value} {o : Ob} {cs : List AV} (hx : S.get c = some (.pt id off)) (ht : Ty P t true size bytes z) (ho : σ[id]? = some o) (hl : o.readable) (hcs : cut o off size = cs) (hn : cs.length = size) :
    ∃ ad v, (asAddr (a.tmps[c]?.getD undef)).run P w = .ok ad w ∧ (loadVar t ad).run P w = .ok v w ∧ R ρ (.agg cs) v := by
  have h1 := hc.getD hx
  rw [Array.getD_eq_getD_getElem?] at h1
  generalize hv : a.tmps[c]?.getD undef = v at h1
  cases h1 with
  | pt hp =>
    obtain ⟨us, h2, h3, _, h4⟩ := hc.sim.cut ho hp hl hcs
    refine ⟨_, .agg us.toArray, rfl, ?_, .agg h2⟩
    simp only [loadVar, Sem.run_bind, Sem.run_pure, Result.andThen_ok, ht.isAgg, if_true, ht.sizeOf, loadCells]
    rw [run_loadCellsFrom size 0 #[] us (by omega) (fun j u hu => by have := h4 j u hu; rw [← this]; congr 2; omega)]
    simp
theorem resC {c : Tmp} {t : TypeId} {id off size bytes : Nat} {z : Value} {o : Ob} {cs : List AV} (h : fn.results = #[.cell c t]) (hx : S.get c = some (.pt id off)) (ht : Ty P t true size bytes z) (ho : σ[id]? = some o) (hl : o.readable) (hcs : cut o off size = cs) (hn : cs.length = size) : ResOK P fn S σ (.agg cs) := by
  intro E a w ρ hP hc
  obtain ⟨ad, v, h0, h1, h2⟩ := hc.readCell hP hx ht ho hl hcs hn
  refine ⟨v, ?_, h2⟩
  simp [results, h, h0, h1]
theorem resCT {c u : Tmp} {t : TypeId} {id off size bytes : Nat} {z : Value} {o : Ob} {cs : List AV} {y : AV} (h : fn.results = #[.cell c t, .tmp u]) (hx : S.get c = some (.pt id off)) (ht : Ty P t true size bytes z) (ho : σ[id]? = some o) (hl : o.readable) (hcs : cut o off size = cs) (hn : cs.length = size) (hy : S.get u = some y) : ResOK P fn S σ (.tup [.agg cs, y]) := by
  intro E a w ρ hP hc
  obtain ⟨ad, v, h0, h1, h2⟩ := hc.readCell hP hx ht ho hl hcs hn
  refine ⟨.tuple #[v, a.tmps.getD u undef], ?_, .tup (.cons h2 (.cons (hc.getD hy) .nil))⟩
  simp [results, h, h0, h1]
end

/-- A call, out of a walk through the function's body. -/
theorem acall_of_wp {P : Program} {base : Nat} {f : FuncId} {fn : Func} {c : Code} {n : Nat} {args : List AV} {σ : Store} {T : Nat → Prop} {K : AV → Store → Prop} (hf : P.funcs[f]? = some fn) (hb : fn.body = some c) (hn : fn.ntmps = n) (hlen : args.length ≤ n)
    (h : ∀ (N : Nat) (B : Nat → Prop) (w₀ : World) (ρ₀ : Pl), WP ⟨P, base, n, fun i => T i ∨ σ.length ≤ i, N, B, w₀, ρ₀, σ.length⟩ c (atEnd P fn K) (args.zipIdx.map fun x => (x.2, x.1)) σ) : ACall P base f args σ T K := by
  intro w ρ vs hvs hsim
  have hl := hvs.length
  refine calls_of_wp hf hb ?_
  have hC : Ctx ⟨P, base, n, fun i => T i ∨ σ.length ≤ i, w.heap.size, fun b => ∃ i q, T i ∧ ρ i = some q ∧ q.own = true ∧ q.blk = b, w, ρ, σ.length⟩ (args.zipIdx.map fun x => (x.2, x.1)) σ
      ⟨vs.toArray ++ Array.replicate (fn.ntmps - vs.toArray.size) undef, []⟩ w ρ := by
    refine { defers := rfl, size := by simp [hn]; omega, slots := ?_, sim := hsim, fr := Fr.refl _ _ _, le := Le.refl _, old := fun _ _ h _ => h, may := ?_, fresh := ?_, n₀_le := Nat.le_refl _, N_le := Nat.le_refl _, later := fun _ h => .inr h }
    · intro t v ht
      have key : ∀ (args : List AV) (k : Nat), Slots.get ((args.zipIdx k).map fun x => (x.2, x.1)) t = some v → ∃ i, t = k + i ∧ args[i]? = some v := by
        intro args
        induction args with
        | nil => intro k h; simp [Slots.get] at h
        | cons x xs ih =>
          intro k h
          simp only [List.zipIdx_cons, List.map_cons] at h
          by_cases e : t = k
          · subst e; rw [lookup_cons_eq] at h; exact ⟨0, rfl, by simpa using h⟩
          · rw [lookup_cons_ne e] at h
            obtain ⟨i, h1, h2⟩ := ih (k + 1) h
            exact ⟨i + 1, by omega, by simpa using h2⟩
      obtain ⟨i, h1, h2⟩ := key args 0 ht
      obtain ⟨u, h3, h4⟩ := hvs.get i v h2
      refine ⟨u, ?_, h4⟩
      have hi : i < vs.length := by
        rcases Nat.lt_or_ge i vs.length with h | h
        · exact h
        · rw [List.getElem?_eq_none h] at h3; cases h3
      rw [show t = i by omega, Array.getElem?_append, if_pos (by simpa using hi)]
      simpa using h3
    · intro i p hp hown hm
      rcases hm with hm | hm
      · exact .inl ⟨i, p, hm, hp, hown, rfl⟩
      · have := hsim.dom i p hp; omega
    · intro i p hp hi
      have := hsim.dom i p hp
      simp only at hi
      omega
  refine wp_mono (h _ _ _ _ _ w ρ hC) ?_
  rintro e a' w' ⟨S', σ', ρ', h1, h2⟩
  have fin : (∃ r, ResOK P fn S' σ' r ∧ K r σ') → ∃ v, (results fn a'.tmps).run P w' = .ok v w' ∧ ∃ r v' σ'' ρ'', Ending.returned v = .returned v' ∧ R ρ'' r v' ∧ K r σ'' ∧ Sim base ρ'' σ'' w' ∧ Le ρ ρ'' ∧ σ.length ≤ σ''.length ∧
      (∀ id p, ρ'' id = some p → id < σ.length → ρ id = some p) ∧
      (∀ id p, ρ'' id = some p → σ.length ≤ id → p.own = true ∧ ((∃ i q, T i ∧ ρ i = some q ∧ q.blk = p.blk) ∨ w.heap.size ≤ p.blk)) ∧
      Fr w.heap.size (fun b => ∃ i q, T i ∧ ρ i = some q ∧ q.own = true ∧ q.blk = b) w w' := by
    rintro ⟨r, hr, hK⟩
    obtain ⟨v, hv, hR⟩ := hr _ _ _ _ rfl h2
    refine ⟨v, hv, r, v, σ', ρ', rfl, hR, hK, h2.sim, h2.le, h2.n₀_le, h2.old, ?_, h2.fr⟩
    intro id p hp hi
    obtain ⟨k1, k2⟩ := h2.fresh id p hp hi
    refine ⟨k1, ?_⟩
    rcases k2 with ⟨i, q, h3, h4, h5, h6⟩ | k2
    · exact .inl ⟨i, q, h3, h4, h6⟩
    · exact .inr k2
  cases e with
  | ret => obtain ⟨v, hv, hR⟩ := fin h1; exact ⟨h2.defers, v, hv, hR⟩
  | normal => obtain ⟨v, hv, hR⟩ := fin h1; exact ⟨h2.defers, v, hv, hR⟩
  | exit id => exact h1
  | goto l => exact h1
  | panic ch => exact h1.elim
  | outgrown => exact h1.elim
end Go.Proofs.YthbodgnoadlbcaaDoor.Asl

/- The program logic's rules for what is left: made slices, cut slices, strings, divisions, guards. -/
namespace Go.Proofs.YthbodgnoadlbcaaDoor.Asl
open Go.RowKit
set_option linter.unusedVariables false
set_option linter.unusedSimpArgs false

theorem run_equalIn_bool {P : Program} {w : World} {t : TypeId} (n : Nat) (a b : Bool) (ht : P.underlying t = some .bool) : (Op.equalIn (n + 1) t (.bool a) (.bool b)).run P w = .ok (a == b) w := by
  simp [Op.equalIn, underlying, ht]
theorem run_equal_bool {P : Program} {w : World} {t : TypeId} (a b : Bool) (ht : P.underlying t = some .bool) : (Op.equal t (.bool a) (.bool b)).run P w = .ok (a == b) w :=
  run_equalIn_bool 9999 a b ht

section
variable {E : Env} {ops : Array Oper} {l : List Oper} {Q : Exit → Slots → Store → Prop} {S : Slots} {σ : Store} {d : Option Tmp} {ty : TypeId} {pos : String} {af : Array Edge} {g : Option (Nat × Bool)} {n0 : Nat} {x y : Operand}

theorem po_boolNe {xt yt : TypeId} {a b : Bool} (hx : S.ev x = some (.lit (.bool a))) (hy : S.ev y = some (.lit (.bool b))) (ht : E.P.underlying xt = some .bool) :
    PO E S σ n0 ⟨d, .binOp .neq xt x y yt, ty, pos, af, g⟩ (.lit (.bool (a != b))) := by
  intro A w ρ W0 hw hag hn
  refine ⟨_, .lit _, fun w' _ => ?_⟩
  simp only [execOp, R_lit (hw.ev hx), R_lit (hw.ev hy), eqGuard, binOp, Sem.run_bind, Sem.run_pure, Result.andThen_ok, run_equal_bool a b ht]
  rfl
theorem po_concat {xt yt : TypeId} {a b : ByteArray} (hx : S.ev x = some (.lit (.string a))) (hy : S.ev y = some (.lit (.string b))) (hb : a.size + b.size ≤ 9223372036854775807) :
    PO E S σ n0 ⟨d, .binOp .add xt x y yt, ty, pos, af, g⟩ (.lit (.string (a ++ b))) := by
  intro A w ρ W0 hw hag hn
  refine ⟨_, .lit _, fun w' _ => ?_⟩
  have h' : ¬ (IntKind.i64.max < (a.size : Int) + (b.size : Int)) := by
    have : IntKind.i64.max = 9223372036854775807 := rfl
    omega
  simp [execOp, R_lit (hw.ev hx), R_lit (hw.ev hy), eqGuard, binOp, Op.stringOp, h']
  omega
theorem po_max {ats : Array TypeId} {kd : IntKind} {a b : Int} (hx : S.ev x = some (.lit (.int kd a))) (hy : S.ev y = some (.lit (.int kd b))) :
    PO E S σ n0 ⟨d, .call ⟨.builtin .max, #[x, y], ats⟩, ty, pos, af, g⟩ (.lit (.int kd (if b > a then b else a))) := by
  intro A w ρ W0 hw hag hn
  refine ⟨_, .lit _, fun w' _ => ?_⟩
  simp [execOp, resolve, invoke, builtin, R_lit (hw.ev hx), R_lit (hw.ev hy), Builtin.max_, Builtin.max2]
theorem po_min {ats : Array TypeId} {kd : IntKind} {a b : Int} (hx : S.ev x = some (.lit (.int kd a))) (hy : S.ev y = some (.lit (.int kd b))) :
    PO E S σ n0 ⟨d, .call ⟨.builtin .min, #[x, y], ats⟩, ty, pos, af, g⟩ (.lit (.int kd (if b < a then b else a))) := by
  intro A w ρ W0 hw hag hn
  refine ⟨_, .lit _, fun w' _ => ?_⟩
  simp [execOp, resolve, invoke, builtin, R_lit (hw.ev hx), R_lit (hw.ev hy), Builtin.min_, Builtin.min2]

/-- A byte of a string. -/
theorem po_index_str {t : TypeId} {s : ByteArray} {i : Int} (hx : S.ev x = some (.lit (.string s))) (hy : S.ev y = some (.lit (.int .i64 i))) (ht : E.P.underlying t = some .string) (h0 : 0 ≤ i) (h1 : i.toNat < s.size) :
    PO E S σ n0 ⟨d, .index t x y, ty, pos, af, g⟩ (.lit (.int .u8 ((s[i.toNat]'h1).toNat : Int))) := by
  intro A w ρ W0 hw hag hn
  refine ⟨_, .lit _, fun w' _ => ?_⟩
  have hs : s[i.toNat]? = some s[i.toNat] := by simp [h1]
  simp [execOp, R_lit (hw.ev hx), R_lit (hw.ev hy), Instr.index, asIntOf, underlying, ht, h0, hs]

/-- A part of a string. -/
theorem po_slice_str {t : TypeId} {s : ByteArray} {lo hi : Option Operand} {a b : Nat} (hx : S.ev x = some (.lit (.string s))) (ht : E.P.underlying t = some .string)
    (hlo : match lo with | none => a = 0 | some y => S.ev y = some (.lit (.int .i64 (a : Int)))) (hhi : match hi with | none => b = s.size | some y => S.ev y = some (.lit (.int .i64 (b : Int)))) (hab : a ≤ b) (hb : b ≤ s.size) :
    PO E S σ n0 ⟨d, .slice t x lo hi none, ty, pos, af, g⟩ (.lit (.string (s.extract a b))) := by
  intro A w ρ W0 hw hag hn
  refine ⟨_, .lit _, fun w' _ => ?_⟩
  have e1 := R_lit (hw.ev hx)
  cases lo with
  | none =>
    simp only at hlo; subst hlo
    cases hi with
    | none => simp only at hhi; subst hhi; simp [execOp, e1, Instr.sliceAt, Instr.slice, Instr.sliceBounds, Instr.sliceBound, asIntOf, underlying, ht]
    | some y => have e3 := R_lit (hw.ev hhi); simp [execOp, e1, e3, Instr.sliceAt, Instr.slice, Instr.sliceBounds, Instr.sliceBound, asIntOf, underlying, ht, hb]
  | some y' =>
    have e2 := R_lit (hw.ev hlo)
    cases hi with
    | none => simp only at hhi; subst hhi; simp [execOp, e1, e2, Instr.sliceAt, Instr.slice, Instr.sliceBounds, Instr.sliceBound, asIntOf, underlying, ht, hab]
    | some y => have e3 := R_lit (hw.ev hhi); simp [execOp, e1, e2, e3, Instr.sliceAt, Instr.slice, Instr.sliceBounds, Instr.sliceBound, asIntOf, underlying, ht, hb, hab]

/-- An operation that is not wanted. -/
theorem wl_off {o : Oper} {j : Nat} {b want : Bool} {oj : Oper} {dj : Tmp} (hg : o.guard = some (j, want)) (hj : ops[j]? = some oj) (hdj : oj.dst = some dj) (hb : S.get dj = some (.lit (.bool b))) (hne : b ≠ want) (k : WL E ops l Q (S.put o.dst (.lit undef)) σ) (hd : okd E o.dst = true) :
    WL E ops (o :: l) Q S σ := by
  intro a w ρ hw
  obtain ⟨u, h1, h2⟩ := hw.slots dj _ hb
  have hu := R_lit h2; subst hu
  have hy : yielded ops a.tmps j = some b := by simp [yielded, hj, hdj, h1]
  have hw' : Region.wanted o (yielded ops a.tmps) = false := by simp [Region.wanted, hg, hy, hne]
  simp only [wpOpsL, hw']
  exact k _ _ _ (hw.put hd (.lit _))
/-- An operation that is wanted. -/
theorem wl_on {d : Option Tmp} {op : Op} {ty : TypeId} {pos : String} {af : Array Edge} {j : Nat} {b want : Bool} {oj : Oper} {dj : Tmp} (hj : ops[j]? = some oj) (hdj : oj.dst = some dj) (hb : S.get dj = some (.lit (.bool b))) (heq : b = want)
    (k : WL E ops (⟨d, op, ty, pos, af, none⟩ :: l) Q S σ) : WL E ops (⟨d, op, ty, pos, af, some (j, want)⟩ :: l) Q S σ := by
  intro a w ρ hw
  obtain ⟨u, h1, h2⟩ := hw.slots dj _ hb
  have hu := R_lit h2; subst hu
  have hy : yielded ops a.tmps j = some b := by simp [yielded, hj, hdj, h1]
  have hw' : Region.wanted (⟨d, op, ty, pos, af, some (j, want)⟩ : Oper) (yielded ops a.tmps) = true := by simp [Region.wanted, hy, heq]
  have := k a w ρ hw
  simp only [wpOpsL, Region.wanted, if_true] at this
  simp only [wpOpsL, hw', if_true]
  exact this
end
end Go.Proofs.YthbodgnoadlbcaaDoor.Asl

/- The program logic's rules for a region that draws its order. -/
namespace Go.Proofs.YthbodgnoadlbcaaDoor.Asl
open Go.RowKit Go.Proofs.YthbodgnoadlbcaaDoorW.PrintLast
set_option linter.unusedVariables false
set_option linter.unusedSimpArgs false

/-- What is kept while a region draws: what is new since it began lies in blocks that are. -/
structure DH (E : Env) (n0 : Nat) (W0 : World) (σ : Store) (ρ : Pl) : Prop where
  le : n0 ≤ σ.length
  fr : ∀ id p, ρ id = some p → n0 ≤ id → p.own = true ∧ W0.heap.size ≤ p.blk
  N : E.N ≤ W0.heap.size
/-- Whatever order is picked from here on; what is listed has come up, or has been taken. -/
def DA (E : Env) (ops : Array Oper) (ds : List Nat) (fuel : Nat) (listed : Array Bool) (Q : Exit → Slots → Store → Prop) (n0 : Nat) (S : Slots) (σ : Store) : Prop :=
  ∀ a w ρ W0, Ctx E S σ a w ρ → Agree W0 w → (∀ id p, ρ id = some p → id < n0 → p.blk < W0.heap.size) → DH E n0 W0 σ ρ → wpAnyLast E.P .any ops (lift E Q) (fun w' => Agree W0 w') ds fuel listed a w

section
variable {E : Env} {ops : Array Oper} {ds : List Nat} {fuel n0 : Nat} {listed : Array Bool} {Q : Exit → Slots → Store → Prop} {S : Slots} {σ : Store}

theorem wp_region_drawn {id : Nat} (hm : E.P.follows .mixedOrders = true) (ds : List Nat) (h : DA E ops ds ops.size (Array.replicate ops.size false) Q σ.length S σ) : WP E (.region id ops true) Q S σ := by
  intro a w ρ hc
  exact wp_region_last hm (h a w.drew ρ w.drew hc.drew (Agree.refl _) (fun id p hp _ => hc.sim.size id p hp) ⟨Nat.le_refl _, fun id p hp h => by have := hc.sim.dom id p hp; omega, hc.N_le⟩)

theorem hQ_of {Q : Exit → Slots → Store → Prop} (hQ : ∀ ch S σ, ¬ Q (.panic ch) S σ) {d : Option Tmp} {v : Value} : ∀ c a w, lift E Q (.panic c) (a.put d v) w → lift E Q (.panic c) a w :=
  fun c a w ⟨S, σ, ρ, h, _⟩ => (hQ c S σ h).elim

/-- An operation that computes or reads is taken first. -/
theorem da_take (i : Nat) {o : Oper} {r : AV} (l' : Array Bool) (ho : ops[i]? = some o) (hg : o.guard = none) (hd : okd E o.dst = true) (hc : takeB .any ops ds listed l' i = true) (hQ : ∀ ch S σ, ¬ Q (.panic ch) S σ) (h : PO E S σ n0 o r)
    (k : DA E ops ds fuel l' Q n0 (S.put o.dst r) σ) : DA E ops ds (fuel + 1) listed Q n0 S σ := by
  intro a w ρ W0 hw hag hn hle
  obtain ⟨u, h1, h2⟩ := h a w ρ W0 hw hag hn
  exact take_ l' ho rfl hc (hQ_of hQ) (.inl ⟨by simp [Region.wanted, hg], fun w' hw' => h2 w' hw'⟩) hag rfl (k _ w ρ W0 (hw.put hd h1) hag hn hle)
theorem da_done (hr : Region.ready .any ops listed = []) (h : Q .normal S σ) : DA E ops ds fuel listed Q n0 S σ :=
  fun a w ρ W0 hw hag hn hle => wpAnyLast_done hr ⟨S, σ, ρ, h, hw⟩ fuel

/-- An operation as a walk over it alone tells it. -/
theorem wpOp_of_L {P : Program} {Q Q' : Exit → Act → World → Prop} {K : Act → World → Prop} {i : Nat} {o : Oper} {a : Act} {w : World} (ho : ops[i]? = some o) (h : wpOpsL P ops Q' [o] a w) (hk : ∀ a w, Q' .normal a w → K a w) (hq : ∀ e a w, Q' e a w → e ≠ .normal → Q e a w) : wpOp P ops Q i K a w := by
  unfold wpOp
  simp only [ho]
  simp only [wpOpsL] at h
  by_cases hw : Region.wanted o (yielded ops a.tmps) = true
  · rw [if_pos hw] at h ⊢
    refine .inl ?_
    unfold Oper.wp at h ⊢
    generalize (execOp a.eval o).run P w = r at h ⊢
    revert h
    unfold Oper.upon
    split <;> intro h
    · exact hk _ _ h
    · exact hk _ _ h
    · exact hk _ _ h
    · refine Calls.mono h ?_
      intro e w' he
      cases e with
      | returned v => exact hk _ _ he
      | panicked c => exact hq _ _ _ he (by simp)
      | outgrown => obtain ⟨a₀, w₀, h₀⟩ := he; exact ⟨a₀, w₀, hq _ _ _ h₀ (by simp)⟩
    · exact Rows.mono h fun v w' hv => hk _ _ hv
    · exact hq _ _ _ h (by simp)
    · exact h
  · rw [if_neg hw] at h ⊢
    exact hk _ _ h

/-- The one operation that can come up, which leaves what was there as it was. -/
theorem da_step (i : Nat) {o : Oper} (l' : Array Bool) (ho : ops[i]? = some o) (hr : Region.ready .any ops listed = [i]) (hl' : listed.setIfInBounds i true = l')
    (h : ∀ E' : Env, E'.P = E.P → E'.base = E.base → E'.n = E.n → (∀ id, σ.length ≤ id → E'.may id) → WL E' ops [o] (fun e S' σ' => e = .normal ∧ σ.length ≤ σ'.length ∧ DA E ops ds fuel l' Q n0 S' σ') S σ) : DA E ops ds (fuel + 1) listed Q n0 S σ := by
  intro a w ρ W0 hw hag hn hle
  refine wpAnyLast_all hr (by simp) fun j hj => ?_
  obtain rfl : j = i := by simpa using hj
  let E' : Env := ⟨E.P, E.base, E.n, fun id => σ.length ≤ id, w.heap.size, fun _ => False, w, ρ, σ.length⟩
  have hw' : Ctx E' S σ a w ρ := by
    refine { defers := hw.defers, size := hw.size, slots := hw.slots, sim := hw.sim, fr := Fr.refl _ _ _, le := Le.refl _, old := fun _ _ h _ => h, may := ?_, fresh := ?_, n₀_le := Nat.le_refl _, N_le := Nat.le_refl _, later := fun _ h => h }
    · intro id p hp _ hm
      have := hw.sim.dom id p hp
      simp only [E'] at hm; omega
    · intro id p hp hm
      have := hw.sim.dom id p hp
      simp only [E'] at hm; omega
  refine wpOp_of_L (Q' := lift E' (fun e S' σ' => e = .normal ∧ σ.length ≤ σ'.length ∧ DA E ops ds fuel l' Q n0 S' σ')) ho (h E' rfl rfl rfl (fun _ h => h) a w ρ hw') ?_ ?_
  · rintro a' w' ⟨S', σ', ρ', ⟨_, hlen, hD⟩, hC⟩
    have hfr := hC.fr
    have hag' : Agree w w' := ⟨hfr.size, fun k hk => hfr.block k hk (fun f => f)⟩
    refine ⟨fun _ _ => hag.trans hag', ?_⟩
    subst hl'
    have hCE : Ctx E S' σ' a' w' ρ' := by
      have := hw.called (σ' := σ') (w' := w') (ρ' := ρ') (T := fun _ => False) (fun _ f => f.elim) hC.sim hC.le hlen hC.old (fun id p hp hi => by
        obtain ⟨k1, k2⟩ := hC.fresh id p hp hi
        exact ⟨k1, .inr (k2.resolve_left (fun f => f))⟩) (fun _ _ f => f.elim) ⟨hfr.os, hfr.tape, hfr.output, hfr.size, fun k hk _ => hfr.block k hk (fun f => f)⟩
      exact { this with defers := hC.defers, size := hC.size, slots := hC.slots }
    have hle' := hle.le
    refine hD a' w' ρ' W0 hCE (hag.trans hag') ?_ ⟨by omega, ?_, hle.N⟩
    · intro id p hp hi
      exact hn id p (hC.old id p hp (Nat.lt_of_lt_of_le hi hle')) hi
    · intro id p hp hi
      rcases Nat.lt_or_ge id σ.length with h1 | h1
      · exact hle.fr id p (hC.old id p hp h1) hi
      · obtain ⟨k1, k2⟩ := hC.fresh id p hp h1
        exact ⟨k1, Nat.le_trans hag.size (k2.resolve_left (fun f => f))⟩
  · rintro e a' w' ⟨S', σ', ρ', ⟨h1, _⟩, _⟩ h2
    exact absurd h1 h2

/-- Behind a write: what is left comes up one by one. -/
def DL (E : Env) (ops : Array Oper) (ds : List Nat) (fuel : Nat) (listed : Array Bool) (Q : Exit → Slots → Store → Prop) (S : Slots) (σ : Store) : Prop :=
  ∀ a w ρ (I : World → Prop), Ctx E S σ a w ρ → wpAnyLast E.P .any ops (lift E Q) I ds fuel listed a w
theorem DL.da (h : DL E ops ds fuel listed Q S σ) : DA E ops ds fuel listed Q n0 S σ := fun a w ρ W0 hw _ _ _ => h a w ρ _ hw
theorem dl_done (hr : Region.ready .any ops listed = []) (h : Q .normal S σ) : DL E ops ds fuel listed Q S σ :=
  fun a w ρ I hw => wpAnyLast_done hr ⟨S, σ, ρ, h, hw⟩ fuel
/-- One of the last, which may write. -/
theorem dl_step (i : Nat) {o : Oper} (l' : Array Bool) (ho : ops[i]? = some o) (hi : i ∈ ds) (hr : Region.ready .any ops listed = [i]) (hl' : listed.setIfInBounds i true = l')
    (h : WL E ops [o] (fun e S' σ' => e = .normal ∧ DL E ops ds fuel l' Q S' σ') S σ) : DL E ops ds (fuel + 1) listed Q S σ := by
  intro a w ρ I hw
  refine wpAnyLast_all hr (by simp) fun j hj => ?_
  obtain rfl : j = i := by simpa using hj
  refine wpOp_of_L (Q' := lift E (fun e S' σ' => e = .normal ∧ DL E ops ds fuel l' Q S' σ')) ho (h a w ρ hw) ?_ ?_
  · rintro a' w' ⟨S', σ', ρ', ⟨_, hD⟩, hC⟩
    subst hl'
    exact ⟨fun hn => absurd hi hn, hD a' w' ρ' I hC⟩
  · rintro e a' w' ⟨S', σ', ρ', ⟨h1, _⟩, _⟩ h2
    exact absurd h1 h2
end
end Go.Proofs.YthbodgnoadlbcaaDoor.Asl
