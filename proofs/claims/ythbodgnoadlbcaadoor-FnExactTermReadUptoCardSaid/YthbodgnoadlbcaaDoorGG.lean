/- Several texts in one. -/
import Derived.Test.YthbodgnoadlbcaaDoorBB
import Derived.Test.YthbodgnoadlbcaaDoorPP
import Derived.Test.YthbodgnoadlbcaaDoorF
import Derived.Test.YthbodgnoadlbcaaDoorB6
/- Rows: how lists of numbers, truths, moves, and lists of lists lie in the store. -/
namespace Go.Proofs.YthbodgnoadlbcaaDoor.Asl
open Go.RowKit Go.Proofs.YthbodgnoadlbcaaDoorW.PrintLast
set_option linter.unusedVariables false
set_option linter.unusedSimpArgs false

/-- How one element lies in cells. -/
class Enc (α : Type) where
  e : Nat
  enc : α → List AV
  dflt : α
  pos : 0 < e
  len : ∀ x, (enc x).length = e
instance encNat : Enc Nat := ⟨1, fun n => [I n], 0, by decide, fun _ => rfl⟩
instance encInt : Enc Int := ⟨1, fun n => [I n], 0, by decide, fun _ => rfl⟩
instance encBool : Enc Bool := ⟨1, fun b => [Bo b], false, by decide, fun _ => rfl⟩
instance encMv : Enc Mv := ⟨2, fun m => [I m.1, I m.2], (0, 0), by decide, fun _ => rfl⟩
instance encAV : Enc AV := ⟨1, fun v => [v], nilS, by decide, fun _ => rfl⟩
instance encStr : Enc ByteArray := ⟨1, fun s => [Str s], ⟨#[]⟩, by decide, fun _ => rfl⟩

def rowCells {α : Type} [Enc α] (l : List α) : List AV := l.flatMap Enc.enc
section
variable {α : Type} [Enc α]
theorem rowCells_cons (x : α) (l : List α) : rowCells (x :: l) = Enc.enc x ++ rowCells l := by simp [rowCells]
theorem rowCells_length (l : List α) : (rowCells l).length = l.length * Enc.e α := by
  induction l with
  | nil => simp [rowCells]
  | cons x l ih => rw [rowCells_cons, List.length_append, ih, Enc.len, List.length_cons, Nat.add_mul]; omega
theorem rowCells_cut {l : List α} {k : Nat} {x : α} (h : l[k]? = some x) : cutL (rowCells l) (k * Enc.e α) (Enc.e α) = Enc.enc x := by
  induction l generalizing k with
  | nil => simp at h
  | cons y l ih =>
    rw [rowCells_cons]
    cases k with
    | zero =>
      simp at h; subst h
      unfold cutL
      rw [Nat.zero_mul, List.drop_zero, List.take_append_of_le_length (by rw [Enc.len]; exact Nat.le_refl _), List.take_of_length_le (by rw [Enc.len]; exact Nat.le_refl _)]
    | succ k =>
      have := ih (k := k) (by simpa using h)
      unfold cutL at *
      rw [← this, Nat.succ_mul, List.drop_append, Enc.len]
      rw [List.drop_of_length_le (by rw [Enc.len]; omega), List.nil_append]
      congr 2
      omega
/-- An own object that holds a row. -/
abbrev Row (l : List α) : Ob := ⟨.own, Enc.e α, rowCells l, []⟩
def AV.id : AV → Nat
  | .sl i _ _ => i
  | _ => 0
def AV.off : AV → Nat
  | .sl _ o _ => o
  | _ => 0
end

/-- A row lies in the store. -/
class RW (σ : Store) (s : AV) {α : outParam Type} [Enc α] (l : outParam (List α)) : Prop where
  bound : l.length ≤ 4294967296
  rep : (l = [] ∧ ∃ a c, s = .lit (.slice a 0 c)) ∨ ∃ id off o, s = .sl id off l.length ∧ σ[id]? = some o ∧ o.readable ∧ o.esz = Enc.e α ∧ ∀ (k : Nat) (x : α), l[k]? = some x → cut o (off + k * Enc.e α) (Enc.e α) = Enc.enc x
section
variable {α : Type} [Enc α]
theorem RW.mono {σ σ' : Store} {s : AV} {l : List α} (h : RW σ s l) (hk : ∀ (o : Ob), (∃ off n, s = .sl s.id off n) → σ[s.id]? = some o → σ'[s.id]? = some o) : RW σ' s l :=
  ⟨h.bound, by
    rcases h.rep with h | ⟨id, off, o, h1, h2, h3⟩
    · exact .inl h
    · subst h1; exact .inr ⟨id, off, o, rfl, hk o ⟨_, _, rfl⟩ h2, h3⟩⟩
theorem RW.les {σ σ' : Store} {s : AV} {l : List α} (h : RW σ s l) (g : LeS σ σ') : RW σ' s l := h.mono fun o _ ho => g.keep _ o ho
instance instRWGrow {σ σ' : Store} {s : AV} {l : List α} [g : Grow σ σ'] [h : RW σ s l] : RW σ' s l := h.mono fun o _ ho => g.keep _ o ho
instance instRWUpd {σa σ σ' : Store} {i : Nat} {o' : Ob} {s : AV} {l : List α} [g : Upd σ i o' σ'] [n : New σa i] [k : LeS σa σ] [h : RW σa s l] : RW σ' s l :=
  h.les (instLeUpd (h := k) (k := instLeRefl) (n := n) (g := g))
theorem RW.one {σ : Store} {s : AV} {l : List α} (h : RW σ s l) : One s := by
  rcases h.rep with ⟨_, a, c, rfl⟩ | ⟨id, off, o, rfl, _⟩ <;> exact ⟨rfl⟩
theorem RW.nil (σ : Store) (a : Option Addr) (c : Nat) : RW σ (.lit (.slice a 0 c)) ([] : List α) := ⟨by simp, .inl ⟨rfl, a, c, rfl⟩⟩
theorem RW.inner {σ : Store} {s : AV} {l : List α} (h : RW σ s l) (hl : 0 < l.length) : ∃ o, s = .sl s.id s.off l.length ∧ σ[s.id]? = some o ∧ o.readable ∧ o.esz = Enc.e α ∧ ∀ (k : Nat) (x : α), l[k]? = some x → cut o (s.off + k * Enc.e α) (Enc.e α) = Enc.enc x := by
  rcases h.rep with ⟨rfl, _⟩ | ⟨id, off, o, rfl, h2⟩
  · simp at hl
  · exact ⟨o, rfl, h2⟩
theorem rw_of_has {σ : Store} {i n : Nat} {l : List α} (h : Has σ i (Row l)) (hn : l.length = n) (hb : n ≤ 4294967296) : RW σ (.sl i 0 n) l := by
  subst hn
  exact ⟨hb, .inr ⟨i, 0, _, rfl, h.get, .inr rfl, rfl, fun k x hx => by rw [cut_cutL, Nat.zero_add]; exact rowCells_cut hx⟩⟩
theorem at_row {σ : Store} {s : AV} {l : List α} {k : Nat} (h : RW σ s l) (hk : k < l.length) : At σ s.id (s.off + k * Enc.e α) (Enc.e α) (Enc.enc (l.getD k Enc.dflt)) := by
  obtain ⟨o, h1, h2, h3, h4, h5⟩ := h.inner (by omega)
  refine ⟨o, h2, h3, ?_, Enc.len _⟩
  rw [h5 k (l.getD k Enc.dflt) (by simp [List.getD_eq_getElem?_getD, hk])]
theorem at_sub {σ : Store} {i off n j : Nat} {cs : List AV} {c : AV} (h : At σ i off n cs) (hc : cs[j]? = some c) : At σ i (off + j) 1 [c] := by
  obtain ⟨o, h1, h2, h3, h4⟩ := h.get
  refine ⟨o, h1, h2, ?_, rfl⟩
  subst h3
  have hj : (o.cells.drop off)[j]? = some c := by
    unfold cut at hc
    rw [List.getElem?_take] at hc
    split at hc
    · exact hc
    · cases hc
  rw [List.getElem?_drop] at hj
  unfold cut
  have hl : off + j < o.cells.length := by
    rcases Nat.lt_or_ge (off + j) o.cells.length with h | h
    · exact h
    · rw [List.getElem?_eq_none h] at hj; cases hj
  rw [List.drop_eq_getElem_cons hl, List.take_succ_cons, List.take_zero]
  rw [List.getElem?_eq_getElem hl] at hj
  rw [Option.some.inj hj]
theorem RW.appends {P : Program} {σ : Store} {s : AV} {l : List α} (h : RW σ s l) (h1 : ∀ x ∈ l, ∀ c ∈ Enc.enc x, c.one = true) : Appends P σ (Enc.e α) l.length s (rowCells l) := by
  have hall : ∀ c ∈ rowCells l, c.one = true := by
    intro c hc
    unfold rowCells at hc
    obtain ⟨x, hx, hc⟩ := List.mem_flatMap.mp hc
    exact h1 x hx c hc
  rcases h.rep with ⟨rfl, a, c, rfl⟩ | ⟨id, off, o, rfl, h2, h3, h4, h5⟩
  · refine ⟨by simp [rowCells], by simp [rowCells], fun base ρ w v hs hr => ?_⟩
    cases hr
    refine ⟨rfl, [], .nil, ?_⟩
    cases a with
    | none => rfl
    | some a =>
      have e : (Builtin.firstCells (Enc.e α) ([] : List α).length (.slice (some a) 0 c)) = loadCells a 0 := by simp [Builtin.firstCells]
      rw [e]; rfl
  · refine Appends.row h2 h3 ?_ (rowCells_length l) hall
    unfold cut
    apply List.ext_getElem?
    intro j
    rw [List.getElem?_take, List.getElem?_drop]
    have hpos := Enc.pos (α := α)
    split
    · rename_i hj
      have hd : j / Enc.e α < l.length := by
        rw [Nat.div_lt_iff_lt_mul hpos]; exact hj
      have e1 := h5 (j / Enc.e α) l[j / Enc.e α] (by simp [hd])
      have e2 := rowCells_cut (l := l) (k := j / Enc.e α) (x := l[j / Enc.e α]) (by simp [hd])
      have hm := Nat.mod_lt j hpos
      have hdm := Nat.div_add_mod j (Enc.e α)
      rw [Nat.mul_comm] at hdm
      have k1 : (cut o (off + j / Enc.e α * Enc.e α) (Enc.e α))[j % Enc.e α]? = o.cells[off + j]? := by
        unfold cut
        rw [List.getElem?_take, if_pos hm, List.getElem?_drop]; congr 1; omega
      have k2 : (cutL (rowCells l) (j / Enc.e α * Enc.e α) (Enc.e α))[j % Enc.e α]? = (rowCells l)[j]? := by
        unfold cutL
        rw [List.getElem?_take, if_pos hm, List.getElem?_drop]; congr 1
      rw [← k1, ← k2, e1, e2]
    · rename_i hj
      rw [List.getElem?_eq_none (by rw [rowCells_length]; omega)]
end

/-- An own row, new since a store. -/
class OW (σ₀ : outParam Store) (σ : Store) (s : AV) {α : outParam Type} [Enc α] (l : outParam (List α)) : Prop where
  bound : l.length ≤ 4294967296
  rep : (l = [] ∧ s = nilS) ∨ ∃ id, s = .sl id 0 l.length ∧ σ₀.length ≤ id ∧ Has σ id (Row l)
section
variable {α : Type} [Enc α]
theorem OW.rw {σ₀ σ : Store} {s : AV} {l : List α} (h : OW σ₀ σ s l) : RW σ s l := by
  rcases h.rep with ⟨rfl, rfl⟩ | ⟨id, rfl, _, hh⟩
  · exact .nil _ _ _
  · exact rw_of_has hh rfl h.bound
instance instOW {σ₀ σ : Store} {s : AV} {l : List α} [h : OW σ₀ σ s l] : RW σ s l := h.rw
theorem OW.one {σ₀ σ : Store} {s : AV} {l : List α} (h : OW σ₀ σ s l) : One s := h.rw.one
theorem OW.keep {σ₀ σ σ' : Store} {s : AV} {l : List α} (h : OW σ₀ σ s l) (hk : ∀ (j : Nat) (o : Ob), σ₀.length ≤ j → (∃ n, s = .sl j 0 n) → σ[j]? = some o → σ'[j]? = some o) : OW σ₀ σ' s l :=
  ⟨h.bound, by
    rcases h.rep with h | ⟨id, rfl, h1, h2⟩
    · exact .inl h
    · exact .inr ⟨id, rfl, h1, ⟨hk _ _ h1 ⟨_, rfl⟩ h2.get⟩⟩⟩
instance instOWGrow {σ₀ σ σ' : Store} {s : AV} {l : List α} [g : Grow σ σ'] [h : OW σ₀ σ s l] : OW σ₀ σ' s l := h.keep fun j o _ _ ho => g.keep j o ho
instance instOWUpd {σ₀ σ σ' : Store} {i : Nat} {o o' : Ob} {s : AV} {l : List α} [g : Upd σ i o' σ'] [k : Has σ₀ i o] [h : OW σ₀ σ s l] : OW σ₀ σ' s l :=
  h.keep fun j x hj _ ho => by have := k.lt; rw [g.eq, List.getElem?_set_ne (by omega)]; exact ho
theorem OW.down {σ₀ σ₁ σ : Store} {s : AV} {l : List α} (h : OW σ₁ σ s l) (k : σ₀.length ≤ σ₁.length) : OW σ₀ σ s l :=
  ⟨h.bound, by
    rcases h.rep with h | ⟨id, h1, h2, h3⟩
    · exact .inl h
    · exact .inr ⟨id, h1, Nat.le_trans k h2, h3⟩⟩
theorem ow_of_has {σ₀ σ : Store} {i n : Nat} {l : List α} (h : Has σ i (Row l)) (hi : σ₀.length ≤ i) (hn : l.length = n) (hb : n ≤ 4294967296) : OW σ₀ σ (.sl i 0 n) l := by
  subst hn; exact ⟨hb, .inr ⟨i, rfl, hi, h⟩⟩
theorem OW.nilS (σ₀ σ : Store) : OW σ₀ σ Asl.nilS ([] : List α) := ⟨by simp, .inl ⟨rfl, rfl⟩⟩
def RetOW (σ : Store) (l : List α) : AV → Store → Prop := fun r σ' => OW σ σ' r l ∧ Grow σ σ'
theorem ret_ow {σ σ₁ σ' : Store} {s : AV} {l l' : List α} (h : OW σ₁ σ' s l') (k : LeS σ σ₁) (g : LeS σ σ') (e : l' = l) : RetOW σ l s σ' := by
  subst e; exact ⟨h.down k.len, g.grow⟩
end

/-- Slices that each hold a row. -/
class RRs (σ : Store) (ss : List AV) {α : outParam Type} [Enc α] (g : outParam (List (List α))) : Prop where
  len : ss.length = g.length
  row : ∀ k, RW σ (ss.getD k nilS) (g.getD k [])
section
variable {α : Type} [Enc α]
instance instRRsGrow {σ σ' : Store} {ss : List AV} {g : List (List α)} [gr : Grow σ σ'] [h : RRs σ ss g] : RRs σ' ss g := ⟨h.len, fun k => (h.row k).les ⟨gr.keep⟩⟩
instance instRRsUpd {σa σ σ' : Store} {i : Nat} {o' : Ob} {ss : List AV} {g : List (List α)} [u : Upd σ i o' σ'] [n : New σa i] [k : LeS σa σ] [h : RRs σa ss g] : RRs σ' ss g :=
  ⟨h.len, fun j => (h.row j).les (instLeUpd (h := k) (k := instLeRefl) (n := n) (g := u))⟩
theorem RRs.les {σ σ' : Store} {ss : List AV} {g : List (List α)} (h : RRs σ ss g) (l : LeS σ σ') : RRs σ' ss g := ⟨h.len, fun k => (h.row k).les l⟩
instance instRRsRow {σ : Store} {ss : List AV} {k : Nat} {g : List (List α)} [h : RRs σ ss g] : RW σ (ss.getD k nilS) (g.getD k []) := h.row k
instance instRRsRow' {σ : Store} {ss : List AV} {k : Nat} {g : List (List α)} [h : RRs σ ss g] : RW σ (ss.getD k Enc.dflt) (g.getD k []) := h.row k
theorem RRs.one {σ : Store} {ss : List AV} {g : List (List α)} (h : RRs σ ss g) : ∀ c ∈ ss, c.one = true := by
  intro c hc
  obtain ⟨k, hk, rfl⟩ := List.getElem_of_mem hc
  have := (h.row k).one.eq
  simpa [List.getD_eq_getElem?_getD, hk] using this

/-- Own slices, new since a store, each in an object of its own. -/
class ORs (σ₀ : outParam Store) (σ : Store) (ss : List AV) {α : outParam Type} [Enc α] (g : outParam (List (List α))) : Prop where
  len : ss.length = g.length
  row : ∀ k, OW σ₀ σ (ss.getD k nilS) (g.getD k [])
  apart : ∀ (j k id n m : Nat), ss[j]? = some (.sl id 0 n) → ss[k]? = some (.sl id 0 m) → j = k
theorem ORs.rrs {σ₀ σ : Store} {ss : List AV} {g : List (List α)} (h : ORs σ₀ σ ss g) : RRs σ ss g := ⟨h.len, fun k => (h.row k).rw⟩
instance instORs {σ₀ σ : Store} {ss : List AV} {g : List (List α)} [h : ORs σ₀ σ ss g] : RRs σ ss g := h.rrs
theorem ORs.keep {σ₀ σ σ' : Store} {ss : List AV} {g : List (List α)} (h : ORs σ₀ σ ss g) (hk : ∀ (j : Nat) (o : Ob), σ₀.length ≤ j → (∃ n, (AV.sl j 0 n) ∈ ss) → σ[j]? = some o → σ'[j]? = some o) : ORs σ₀ σ' ss g :=
  ⟨h.len, fun k => (h.row k).keep fun j o hj ⟨n, e⟩ ho => hk j o hj ⟨n, by
    by_cases hk' : k < ss.length
    · rw [← e]; simp [List.getD_eq_getElem?_getD, hk']
    · rw [List.getD_eq_getElem?_getD, List.getElem?_eq_none (by omega)] at e; cases e⟩ ho, h.apart⟩
instance instORsGrow {σ₀ σ σ' : Store} {ss : List AV} {g : List (List α)} [gr : Grow σ σ'] [h : ORs σ₀ σ ss g] : ORs σ₀ σ' ss g := h.keep fun j o _ _ ho => gr.keep j o ho
instance instORsUpd {σ₀ σ σ' : Store} {i : Nat} {o o' : Ob} {ss : List AV} {g : List (List α)} [u : Upd σ i o' σ'] [k : Has σ₀ i o] [h : ORs σ₀ σ ss g] : ORs σ₀ σ' ss g :=
  h.keep fun j x hj _ ho => by have := k.lt; rw [u.eq, List.getElem?_set_ne (by omega)]; exact ho
theorem ORs.down {σ₀ σ₁ σ : Store} {ss : List AV} {g : List (List α)} (h : ORs σ₁ σ ss g) (k : σ₀.length ≤ σ₁.length) : ORs σ₀ σ ss g := ⟨h.len, fun j => (h.row j).down k, h.apart⟩
theorem ORs.nil (σ₀ σ : Store) : ORs σ₀ σ [] ([] : List (List α)) := ⟨rfl, fun k => by simpa using OW.nilS σ₀ σ, fun j k id n m h => by simp at h⟩
theorem ORs.lt {σ₀ σ : Store} {ss : List AV} {g : List (List α)} (h : ORs σ₀ σ ss g) {i n : Nat} (hi : AV.sl i 0 n ∈ ss) : i < σ.length := by
  obtain ⟨k, hk, e⟩ := List.getElem_of_mem hi
  have e' : ss.getD k nilS = .sl i 0 n := by simp [List.getD_eq_getElem?_getD, hk, e]
  rcases (h.row k).rep with ⟨_, h1⟩ | ⟨id, h1, _, h3⟩
  · rw [e'] at h1; cases h1
  · rw [e'] at h1; cases h1; exact h3.lt
/-- A row of rows is handed back: the outer slice's too. -/
def RetORs (σ : Store) (g : List (List α)) : AV → Store → Prop := fun r σ' => ∃ ss, OW σ σ' r ss ∧ ORs σ σ' ss g ∧ Grow σ σ'
/-- A graph is handed back. -/
def RetG (σ : Store) (g : Gr) : AV → Store → Prop := fun r σ' => ∃ s ss, r = .agg [s] ∧ OW σ σ' s ss ∧ ORs σ σ' ss g ∧ Grow σ σ'
end

section
variable {E : Env} {ops : Array Oper} {l : List Oper} {Q : Exit → Slots → Store → Prop} {S : Slots} {σ : Store} {d : Option Tmp} {ty : TypeId} {pos : String} {af : Array Edge} {g : Option (Nat × Bool)} {n0 : Nat} {x y : Operand} {α : Type} [Enc α]
/-- Where an element lies. -/
theorem pc_indexRow {σ₀ : Store} {t e : TypeId} {s : AV} {xs : List α} {i : Nat} {agg : Bool} {size bytes : Nat} {z : Value} (hx : S.ev x = some s) (hy : S.ev y = some (I (i : Int))) (ht : Un E.P t (.slice e)) (he : Ty E.P e agg size bytes z) (h : RW σ₀ s xs)
    (h1 : i < xs.length) : PO E S σ σ₀.length ⟨d, .indexAddr t x y, ty, pos, af, g⟩ (.pt s.id (s.off + i * size)) := by
  obtain ⟨o, h2, _⟩ := h.inner (by omega)
  rw [h2] at hx
  exact pc_indexAddr hx hy ht he h1
theorem pc_indexSlZ {t e : TypeId} {id off len : Nat} {i : Int} {agg : Bool} {size bytes : Nat} {z : Value} (hx : S.ev x = some (.sl id off len)) (hy : S.ev y = some (I i)) (ht : Un E.P t (.slice e)) (he : Ty E.P e agg size bytes z)
    (h0 : 0 ≤ i) (h1 : i < len) : PO E S σ n0 ⟨d, .indexAddr t x y, ty, pos, af, g⟩ (.pt id (off + i.toNat * size)) := by
  have e : i = ((i.toNat : Nat) : Int) := by omega
  rw [e] at hy
  exact pc_indexAddr hx hy ht he (by omega)
/-- The store behind an append to a row s that is new since σ₀. -/
structure App (σ₀ σ : Store) (s s' : AV) (σ' : Store) : Prop where
  keep : ∀ (j : Nat) (o : Ob), (j < σ₀.length ∨ ∀ n, s ≠ .sl j 0 n) → σ[j]? = some o → σ'[j]? = some o
  len : σ.length ≤ σ'.length
  fresh : s' = s ∨ ∃ j n, s' = .sl j 0 n ∧ σ.length ≤ j
theorem App.les {σa σ₀ σ σ' : Store} {s s' : AV} (h : App σ₀ σ s s' σ') (k : σa.length ≤ σ₀.length) (g : LeS σa σ) : LeS σa σ' :=
  ⟨fun i o ho => h.keep i o (.inl (Nat.lt_of_lt_of_le (Has.lt ⟨ho⟩) k)) (g.keep i o ho)⟩
end
section
variable {E : Env} {ops : Array Oper} {l : List Oper} {Q : Exit → Slots → Store → Prop} {S : Slots} {σ : Store} {d : Option Tmp} {ty : TypeId} {pos : String} {af : Array Edge} {x y : Operand}
theorem wc_callOW {α : Type} [Enc α] {args : Array Operand} {ats : Array TypeId} {f : FuncId} {rs caps : List AV} {xs : List α} (hf : S.ev x = some (.fn f caps)) (hc : Callable E.P f) (hargs : evs S args.toList = some rs)
    (h : ACall E.P E.base f (rs ++ caps) σ (fun _ => False) (RetOW σ xs)) (hd : okd E d = true) (k : ∀ u σ', One u → OW σ σ' u xs → Grow σ σ' → WL E ops l Q (S.put d u) σ') :
    WL E ops (⟨d, .call ⟨.value x, args, ats⟩, ty, pos, af, none⟩ :: l) Q S σ :=
  wc_call hf hc hargs h hd fun r' σ' h => by obtain ⟨h1, hg⟩ := h; exact k r' σ' h1.one h1 hg
end
end Go.Proofs.YthbodgnoadlbcaaDoor.Asl

/- Rules for loads and stores of rows' elements, a type each. Written by a program of this session. -/
namespace Go.Proofs.YthbodgnoadlbcaaDoor.Asl
open Go.RowKit Go.Proofs.YthbodgnoadlbcaaDoorW.PrintLast
set_option linter.unusedVariables false
set_option linter.unusedSimpArgs false
section
variable {E : Env} {ops : Array Oper} {L : List Oper} {Q : Exit → Slots → Store → Prop} {S : Slots} {σ σ₀ : Store} {d : Option Tmp} {ty : TypeId} {pos : String} {af : Array Edge} {g : Option (Nat × Bool)} {x y : Operand} {t : TypeId} {bytes : Nat} {z : Value} {s : AV} {k i : Nat}
theorem pc_ldStr {l : List ByteArray} (hx : S.ev x = some (.pt s.id (s.off + k * 1))) (ht : Ty E.P t false 1 bytes z) (h : RW σ₀ s l) (hk : k < l.length) (hl : LeS σ₀ σ) : PO E S σ σ₀.length ⟨d, .load t x, ty, pos, af, g⟩ (Str (l.getD k ⟨#[]⟩)) :=
  pc_load1L hx ht (at_row h hk) hl
end
end Go.Proofs.YthbodgnoadlbcaaDoor.Asl

/- Lists that are filled, and lists that agree so far. -/
namespace Go.Proofs.YthbodgnoadlbcaaDoor.Asl
open Go.RowKit
set_option linter.unusedVariables false

end Go.Proofs.YthbodgnoadlbcaaDoor.Asl

/- Rules for rows that are written down and appended to. -/
namespace Go.Proofs.YthbodgnoadlbcaaDoor.Asl
open Go.RowKit Go.Proofs.YthbodgnoadlbcaaDoorW.PrintLast
set_option linter.unusedVariables false
set_option linter.unusedSimpArgs false

theorem may_ge {σs : Store} (σ₀ : Store) {T : Nat → Prop} [h : LeS σs σ₀] : ∀ id, σ₀.length ≤ id → T id ∨ σs.length ≤ id := fun _ hi => .inr (Nat.le_trans h.len hi)
theorem App.turned {σ₀ σ σ' : Store} {s s' : AV} (h : App σ₀ σ s s' σ') : Mk σ σ₀ σ σ' := ⟨fun j o hj ho => h.keep j o (hj.elim .inl fun h1 => by have := Has.lt (σ := σ) (i := j) ⟨ho⟩; omega) ho⟩
instance instOWUpdNew {α : Type} [Enc α] {σ₀ σa σ σ' : Store} {i : Nat} {o' : Ob} {s : AV} {l : List α} [u : Upd σ i o' σ'] [n : New σa i] [k : LeS σa σ] [h : OW σ₀ σa s l] : OW σ₀ σ' s l :=
  h.keep fun j x _ _ ho => (instLeUpd (h := k) (k := instLeRefl) (n := n) (g := u)).keep j x ho
instance instORsUpdNew {α : Type} [Enc α] {σ₀ σa σ σ' : Store} {i : Nat} {o' : Ob} {ss : List AV} {g : List (List α)} [u : Upd σ i o' σ'] [n : New σa i] [k : LeS σa σ] [h : ORs σ₀ σa ss g] : ORs σ₀ σ' ss g :=
  h.keep fun j x _ _ ho => (instLeUpd (h := k) (k := instLeRefl) (n := n) (g := u)).keep j x ho
instance instOWMkOld {α : Type} [Enc α] {σ₀ σ σa σb σ' : Store} {s : AV} {l : List α} [m : Mk σ σa σb σ'] [k : LeS σa σ] [h : OW σ₀ σa s l] : OW σ₀ σ' s l :=
  h.keep fun j x _ _ ho => m.keep j x (.inl (Has.lt ⟨ho⟩)) (k.keep j x ho)
instance instORsMkOld {α : Type} [Enc α] {σ₀ σ σa σb σ' : Store} {ss : List AV} {g : List (List α)} [m : Mk σ σa σb σ'] [k : LeS σa σ] [h : ORs σ₀ σa ss g] : ORs σ₀ σ' ss g :=
  h.keep fun j x _ _ ho => m.keep j x (.inl (Has.lt ⟨ho⟩)) (k.keep j x ho)
theorem App.has {σ₀ σ σ' : Store} {s s' : AV} {i : Nat} {o : Ob} (h : App σ₀ σ s s' σ') (hh : Has σ i o) (hne : ∀ n, s ≠ .sl i 0 n) : Has σ' i o := ⟨h.keep i o (.inr hne) hh.get⟩
section
variable {E : Env} {ops : Array Oper} {l : List Oper} {Q : Exit → Slots → Store → Prop} {S : Slots} {σ σ₀ : Store} {d : Option Tmp} {ty : TypeId} {pos : String} {af : Array Edge} {g : Option (Nat × Bool)} {n0 : Nat} {x y : Operand} {t e : TypeId}
theorem pc_build0 {size bytes : Nat} {z : Value} {cs : List AV} {places : List (Nat × Nat)} (hst : StructAt E.P t places) (ht : Ty E.P t true size bytes z) (hcs : z.cells.toList.map .lit = cs) : PO E S σ n0 ⟨d, .build t #[], ty, pos, af, g⟩ (.agg cs) :=
  po_build (rs := []) hst ht rfl (by simp) (by simpa [fillA] using hcs)
end
/-- A graph, or none. -/
noncomputable def optB {α : Type} (p : Prop) (x : α) : Option α := match prB p with
  | true => some x
  | false => none
def RetGO (σ : Store) (o : Option Gr) : AV → Store → Prop := fun r σ' => ∃ u us, r = .tup [.agg [u], Bo o.isSome] ∧ OW σ σ' u us ∧ ORs σ σ' us (o.getD []) ∧ Grow σ σ'
end Go.Proofs.YthbodgnoadlbcaaDoor.Asl
