/- A program logic over the model with an abstract store: values, the store, how they are laid in a world. -/
import Derived.WalkKit
import Derived.Below
import Derived.KernelRfl
namespace Go.Proofs.Ytemhpkfijoodkaa.Asl
open Go.RowKit

/-- Abstract values. A slice names an object, the cell at which it begins and how many elements it has. -/
inductive AV where
  | lit (v : Value)
  | sl (id off len : Nat)
  | pt (id off : Nat)
  | fn (f : FuncId) (caps : List AV)
  | mp (id : Nat)
  | agg (l : List AV)
  | tup (l : List AV)
instance : Inhabited AV := ⟨.lit undef⟩

/-- Where an object lies: its block, where in it, how many cells the block has from there on, how many cells an element has; is it one that may be written. -/
structure Place where
  blk : Nat
  off : Nat
  room : Nat
  esz : Nat
  own : Bool

abbrev Pl := Nat → Option Place

mutual
/-- A value stands for an abstract one. -/
inductive R (ρ : Pl) : AV → Value → Prop
  | lit (v : Value) : R ρ (.lit v) v
  | sl {id off len cap : Nat} {p : Place} : ρ id = some p → len ≤ cap → off + cap * p.esz ≤ p.room → R ρ (.sl id off len) (.slice (some ⟨p.blk, p.off + off, none⟩) len cap)
  | pt {id off : Nat} {p : Place} : ρ id = some p → R ρ (.pt id off) (.pointer (some ⟨p.blk, p.off + off, none⟩))
  | fn {f : FuncId} {caps : List AV} {cs : List Value} : Rs ρ caps cs → R ρ (.fn f caps) (.func (.func f) #[] cs.toArray)
  | mp {id : Nat} {p : Place} : ρ id = some p → R ρ (.mp id) (.map (some p.blk))
  | agg {l : List AV} {cs : List Value} : Rs ρ l cs → R ρ (.agg l) (.agg cs.toArray)
  | tup {l : List AV} {cs : List Value} : Rs ρ l cs → R ρ (.tup l) (.tuple cs.toArray)
inductive Rs (ρ : Pl) : List AV → List Value → Prop
  | nil : Rs ρ [] []
  | cons {x : AV} {v : Value} {xs : List AV} {vs : List Value} : R ρ x v → Rs ρ xs vs → Rs ρ (x :: xs) (v :: vs)
end

/-- More places. -/
def Le (ρ ρ' : Pl) : Prop := ∀ id p, ρ id = some p → ρ' id = some p
theorem Le.refl (ρ : Pl) : Le ρ ρ := fun _ _ h => h
theorem Le.trans {a b c : Pl} (h : Le a b) (k : Le b c) : Le a c := fun i p hp => k i p (h i p hp)

mutual
theorem R.mono {ρ ρ' : Pl} (hl : Le ρ ρ') {x : AV} {v : Value} (h : R ρ x v) : R ρ' x v :=
  match h with
  | .lit v => .lit v
  | .sl h1 h2 h3 => .sl (hl _ _ h1) h2 h3
  | .pt h1 => .pt (hl _ _ h1)
  | .fn h1 => .fn (Rs.mono hl h1)
  | .mp h1 => .mp (hl _ _ h1)
  | .agg h1 => .agg (Rs.mono hl h1)
  | .tup h1 => .tup (Rs.mono hl h1)
theorem Rs.mono {ρ ρ' : Pl} (hl : Le ρ ρ') {x : List AV} {v : List Value} (h : Rs ρ x v) : Rs ρ' x v :=
  match h with
  | .nil => .nil
  | .cons h1 h2 => .cons (R.mono hl h1) (Rs.mono hl h2)
end

theorem Rs.length {ρ : Pl} {xs : List AV} {vs : List Value} (h : Rs ρ xs vs) : xs.length = vs.length := by
  induction xs generalizing vs with
  | nil => cases h; rfl
  | cons x xs ih => cases h with | cons h1 h2 => simp [ih h2]
theorem Rs.get {ρ : Pl} {xs : List AV} {vs : List Value} (h : Rs ρ xs vs) (i : Nat) (x : AV) (hx : xs[i]? = some x) : ∃ v, vs[i]? = some v ∧ R ρ x v := by
  induction xs generalizing vs i with
  | nil => simp at hx
  | cons y ys ih =>
    cases h with
    | cons h1 h2 =>
      cases i with
      | zero => simp at hx; subst hx; exact ⟨_, rfl, h1⟩
      | succ i => simpa using ih h2 i (by simpa using hx)
theorem Rs.append {ρ : Pl} {xs ys : List AV} {vs us : List Value} (h : Rs ρ xs vs) (k : Rs ρ ys us) : Rs ρ (xs ++ ys) (vs ++ us) := by
  induction xs generalizing vs with
  | nil => cases h; exact k
  | cons x xs ih => cases h with | cons h1 h2 => exact .cons h1 (ih h2)
theorem Rs.of_get {ρ : Pl} {xs : List AV} {vs : List Value} (hl : xs.length = vs.length) (h : ∀ (i : Nat) x, xs[i]? = some x → ∃ v, vs[i]? = some v ∧ R ρ x v) : Rs ρ xs vs := by
  induction xs generalizing vs with
  | nil => cases vs with | nil => exact .nil | cons _ _ => simp at hl
  | cons x xs ih =>
    cases vs with
    | nil => simp at hl
    | cons v vs =>
      obtain ⟨u, h1, h2⟩ := h 0 x rfl
      simp at h1; subst h1
      exact .cons h2 (ih (by simpa using hl) fun i y hy => by simpa using h (i + 1) y (by simpa using hy))

/-- A value that fills one cell. -/
def AV.one : AV → Bool
  | .lit (.agg _) | .lit (.tuple _) | .agg _ | .tup _ => false
  | _ => true
/-- The cells that a value fills. -/
def AV.cells : AV → List AV
  | .agg l => l
  | .lit (.agg a) => a.toList.map .lit
  | v => [v]

inductive Kind | ro | own | dead | map
  deriving DecidableEq

/-- An object of the store. -/
structure Ob where
  kind : Kind
  esz : Nat
  cells : List AV
  ents : List (Value × AV) := []

abbrev Store := List Ob

/-- An object and what it stands for. -/
def ObRel (base : Nat) (ρ : Pl) (o : Ob) (p : Place) (w : World) : Prop :=
  match o.kind with
  | .dead => True
  | .ro => p.own = false ∧ p.esz = o.esz ∧ p.blk < base ∧ ∀ (i : Nat) (c : AV), o.cells[i]? = some c → c.one = true ∧ ∃ u, w.cell? ⟨p.blk, p.off + i, none⟩ = some u ∧ R ρ c u
  | .own => p.own = true ∧ p.esz = o.esz ∧ base ≤ p.blk ∧ p.off = 0 ∧ ∃ (cs : Array Value) (ty : TypeId), w.heap[p.blk]? = some (.cells cs ty (0, 0)) ∧ p.room = cs.size ∧ o.cells.length ≤ cs.size ∧ ∀ (i : Nat) (c : AV), o.cells[i]? = some c → c.one = true ∧ ∃ u : Value, cs[i]? = some u ∧ R ρ c u
  | .map => p.own = true ∧ base ≤ p.blk ∧ ∃ (es : Array MapEntry) (clock : Nat), w.heap[p.blk]? = some (.map es clock) ∧ es.size = o.ents.length ∧ ∀ (i : Nat) (k : Value) (c : AV), o.ents[i]? = some (k, c) → ∃ e : MapEntry, es[i]? = some e ∧ e.key = k ∧ R ρ c e.val

def Ob.live (o : Ob) : Prop := o.kind = .own ∨ o.kind = .map

structure Sim (base : Nat) (ρ : Pl) (σ : Store) (w : World) : Prop where
  dom : ∀ id p, ρ id = some p → id < σ.length
  obs : ∀ (id : Nat) (o : Ob) (p : Place), σ[id]? = some o → ρ id = some p → ObRel base ρ o p w
  inj : ∀ (i j : Nat) (o o' : Ob) (p p' : Place), σ[i]? = some o → σ[j]? = some o' → o.live → o'.live → ρ i = some p → ρ j = some p' → p.blk = p'.blk → i = j
  size : ∀ id p, ρ id = some p → p.blk < w.heap.size
  le : base ≤ w.heap.size

/-- Slots that are known. -/
abbrev Slots := List (Nat × AV)
def Slots.get (S : Slots) (t : Nat) : Option AV := S.lookup t
def Slots.put (S : Slots) (d : Option Tmp) (v : AV) : Slots :=
  match d with
  | some d => (d, v) :: S
  | none => S
def SlotsR (ρ : Pl) (S : Slots) (tmps : Array Value) : Prop := ∀ t v, S.get t = some v → ∃ u : Value, tmps[t]? = some u ∧ R ρ v u

def Slots.ev (S : Slots) : Operand → Option AV
  | .tmp t => S.get t
  | .const v => some (.lit v)
  | .func f => some (.fn f [])
  | .global _ => none

/-- What stays the same over a run: all blocks below N but for those of B. -/
structure Fr (N : Nat) (B : Nat → Prop) (w w' : World) : Prop where
  os : w'.os = w.os
  tape : w'.tape = w.tape
  output : w'.output = w.output
  size : w.heap.size ≤ w'.heap.size
  block : ∀ k, k < N → ¬ B k → w'.heap[k]? = w.heap[k]?
theorem Fr.refl (N : Nat) (B : Nat → Prop) (w : World) : Fr N B w w := ⟨rfl, rfl, rfl, Nat.le_refl _, fun _ _ _ => rfl⟩
theorem Fr.trans {N : Nat} {B : Nat → Prop} {a b c : World} (h : Fr N B a b) (k : Fr N B b c) : Fr N B a c :=
  ⟨k.os.trans h.os, k.tape.trans h.tape, k.output.trans h.output, Nat.le_trans h.size k.size, fun i hi hb => (k.block i hi hb).trans (h.block i hi hb)⟩
theorem Fr.below {N : Nat} {w w' : World} (h : Fr N (fun _ => False) w w') : Below N w w' := ⟨h.os, h.tape, h.output, h.size, fun k hk => h.block k hk (fun f => f)⟩
theorem Fr.of_below {N : Nat} {B : Nat → Prop} {w w' : World} (h : Below N w w') : Fr N B w w' := ⟨h.os, h.tape, h.output, h.size, fun k hk _ => h.block k hk⟩

/-- The fixed parts of a walk through a function's body. -/
structure Env where
  P : Program
  base : Nat
  n : Nat
  may : Nat → Prop
  N : Nat
  B : Nat → Prop
  w₀ : World
  ρ₀ : Pl
  n₀ : Nat

structure Ctx (E : Env) (S : Slots) (σ : Store) (a : Act) (w : World) (ρ : Pl) : Prop where
  defers : a.defers = []
  size : a.tmps.size = E.n
  slots : SlotsR ρ S a.tmps
  sim : Sim E.base ρ σ w
  fr : Fr E.N E.B E.w₀ w
  le : Le E.ρ₀ ρ
  old : ∀ id p, ρ id = some p → id < E.n₀ → E.ρ₀ id = some p
  may : ∀ id p, ρ id = some p → p.own = true → E.may id → E.B p.blk ∨ E.N ≤ p.blk
  fresh : ∀ id p, ρ id = some p → E.n₀ ≤ id → p.own = true ∧ (E.B p.blk ∨ E.N ≤ p.blk)
  n₀_le : E.n₀ ≤ σ.length
  N_le : E.N ≤ w.heap.size
  later : ∀ id, E.n₀ ≤ id → E.may id

def lift (E : Env) (Q : Exit → Slots → Store → Prop) (e : Exit) (a : Act) (w : World) : Prop := ∃ S σ ρ, Q e S σ ∧ Ctx E S σ a w ρ
def liftK (E : Env) (K : Slots → Store → Prop) (a : Act) (w : World) : Prop := ∃ S σ ρ, K S σ ∧ Ctx E S σ a w ρ

/-- A piece of code, from slots and a store on. -/
def WP (E : Env) (c : Code) (Q : Exit → Slots → Store → Prop) (S : Slots) (σ : Store) : Prop :=
  ∀ a w ρ, Ctx E S σ a w ρ → c.wp E.P (lift E Q) a w

/-- A call: what it answers and what becomes of the store; the objects of T may be written. -/
def ACall (P : Program) (base : Nat) (f : FuncId) (args : List AV) (σ : Store) (T : Nat → Prop) (Q : AV → Store → Prop) : Prop :=
  ∀ w ρ vs, Rs ρ args vs → Sim base ρ σ w →
    Calls P f vs.toArray w fun e w' => ∃ r v σ' ρ', e = .returned v ∧ R ρ' r v ∧ Q r σ' ∧ Sim base ρ' σ' w' ∧ Le ρ ρ' ∧ σ.length ≤ σ'.length ∧
      (∀ id p, ρ' id = some p → id < σ.length → ρ id = some p) ∧
      (∀ id p, ρ' id = some p → σ.length ≤ id → p.own = true ∧ ((∃ i q, T i ∧ ρ i = some q ∧ q.blk = p.blk) ∨ w.heap.size ≤ p.blk)) ∧
      Fr w.heap.size (fun b => ∃ i q, T i ∧ ρ i = some q ∧ q.own = true ∧ q.blk = b) w w'

theorem ACall.mono {P : Program} {base : Nat} {f : FuncId} {args : List AV} {σ : Store} {T : Nat → Prop} {Q Q' : AV → Store → Prop} (h : ACall P base f args σ T Q) (hq : ∀ r σ', Q r σ' → Q' r σ') : ACall P base f args σ T Q' := by
  intro w ρ vs h1 h2
  refine (h w ρ vs h1 h2).mono ?_
  rintro e w' ⟨r, v, σ', ρ', he, hr, hQ, rest⟩
  exact ⟨r, v, σ', ρ', he, hr, hq _ _ hQ, rest⟩
end Go.Proofs.Ytemhpkfijoodkaa.Asl
