/- Several texts in one. -/
import Derived.Test.YthbodgnoadlbcaaGreatDoorBB
import Derived.Test.YthbodgnoadlbcaaGreatDoorPP
import Derived.Test.YthbodgnoadlbcaaGreatDoorF
import Derived.Test.YthbodgnoadlbcaaGreatDoorB6
/- Rows: how lists of numbers, truths, moves, and lists of lists lie in the store. -/
namespace Go.Proofs.YthbodgnoadlbcaaGreatDoor.Asl
open Go.RowKit Go.Proofs.YthbodgnoadlbcaaGreatDoorW.PrintLast
set_option linter.unusedVariables false
set_option linter.unusedSimpArgs false

class Enc (α : Type) where
  e : Nat
  enc : α → List AV
  dflt : α
  pos : 0 < e
  len : ∀ x, (enc x).length = e
instance encNat : Enc Nat := ⟨1, fun n => [I n], 0, by decide, fun _ => rfl⟩
instance encInt : Enc Int := ⟨1, fun n => [I n], 0, by decide, fun _ => rfl⟩
instance encBool : Enc Bool := ⟨1, fun b => [Bo b], false, by decide, fun _ => rfl⟩
instance encMv : Enc Mv := ⟨2, fun m => [I m.1, I m.2], (0, 0), by decide, fun _ => rfl⟩
instance encAV : Enc AV := ⟨1, fun v => [v], nilS, by decide, fun _ => rfl⟩
instance encStr : Enc ByteArray := ⟨1, fun s => [Str s], ⟨#[]⟩, by decide, fun _ => rfl⟩

def rowCells {α : Type} [Enc α] (l : List α) : List AV := l.flatMap Enc.enc
section
variable {α : Type} [Enc α]
theorem rowCells_cons (x : α) (l : List α) : rowCells (x :: l) = Enc.enc x ++ rowCells l := by simp [rowCells]
theorem rowCells_append (l r : List α) : rowCells (l ++ r) = rowCells l ++ rowCells r := by simp [rowCells]
theorem rowCells_length (l : List α) : (rowCells l).length = l.length * Enc.e α := by
  induction l with
  | nil => simp [rowCells]
  | cons x l ih => rw [rowCells_cons, List.length_append, ih, Enc.len, List.length_cons, Nat.add_mul]; omega
theorem rowCells_one (x : α) : rowCells [x] = Enc.enc x := by simp [rowCells]
theorem rowCells_cut {l : List α} {k : Nat} {x : α} (h : l[k]? = some x) : cutL (rowCells l) (k * Enc.e α) (Enc.e α) = Enc.enc x := by
  induction l generalizing k with
  | nil => simp at h
  | cons y l ih =>
    rw [rowCells_cons]
    cases k with
    | zero =>
      simp at h; subst h
      unfold cutL
      rw [Nat.zero_mul, List.drop_zero, List.take_append_of_le_length (by rw [Enc.len]; exact Nat.le_refl _), List.take_of_length_le (by rw [Enc.len]; exact Nat.le_refl _)]
    | succ k =>
      have := ih (k := k) (by simpa using h)
      unfold cutL at *
      rw [← this, Nat.succ_mul, List.drop_append, Enc.len]
      rw [List.drop_of_length_le (by rw [Enc.len]; omega), List.nil_append]
      congr 2
      omega
theorem rowCells_set {l : List α} {k : Nat} (x : α) (h : k < l.length) : splice (rowCells l) (k * Enc.e α) (Enc.enc x) = rowCells (l.set k x) := by
  induction l generalizing k with
  | nil => simp at h
  | cons y l ih =>
    cases k with
    | zero =>
      rw [List.set_cons_zero, rowCells_cons, rowCells_cons]
      unfold splice
      rw [Nat.zero_mul, List.take_zero, List.nil_append, Nat.zero_add, Enc.len]
      congr 1
      rw [List.drop_append, Enc.len, List.drop_of_length_le (by rw [Enc.len]; exact Nat.le_refl _), List.nil_append, Nat.sub_self, List.drop_zero]
    | succ k =>
      have := ih (k := k) (by simpa using h)
      rw [List.set_cons_succ, rowCells_cons, rowCells_cons, ← this]
      unfold splice
      have e1 : (k + 1) * Enc.e α = Enc.e α + k * Enc.e α := by rw [Nat.succ_mul]; omega
      rw [e1, List.take_append, Enc.len, List.take_of_length_le (by rw [Enc.len]; omega), List.drop_append, Enc.len, List.drop_of_length_le (by simp only [Enc.len]; omega), List.nil_append]
      simp only [Enc.len]
      rw [show Enc.e α + k * Enc.e α - Enc.e α = k * Enc.e α by omega, show Enc.e α + k * Enc.e α + Enc.e α - Enc.e α = k * Enc.e α + Enc.e α by omega]
      simp [List.append_assoc]

abbrev Row (l : List α) : Ob := ⟨.own, Enc.e α, rowCells l, []⟩
def AV.id : AV → Nat
  | .sl i _ _ => i
  | _ => 0
def AV.off : AV → Nat
  | .sl _ o _ => o
  | _ => 0
end

class RW (σ : Store) (s : AV) {α : outParam Type} [Enc α] (l : outParam (List α)) : Prop where
  bound : l.length ≤ 4294967296
  rep : (l = [] ∧ ∃ a c, s = .lit (.slice a 0 c)) ∨ ∃ id off o, s = .sl id off l.length ∧ σ[id]? = some o ∧ o.readable ∧ o.esz = Enc.e α ∧ ∀ (k : Nat) (x : α), l[k]? = some x → cut o (off + k * Enc.e α) (Enc.e α) = Enc.enc x
section
variable {α : Type} [Enc α]
theorem RW.mono {σ σ' : Store} {s : AV} {l : List α} (h : RW σ s l) (hk : ∀ (o : Ob), (∃ off n, s = .sl s.id off n) → σ[s.id]? = some o → σ'[s.id]? = some o) : RW σ' s l :=
  ⟨h.bound, by
    rcases h.rep with h | ⟨id, off, o, h1, h2, h3⟩
    · exact .inl h
    · subst h1; exact .inr ⟨id, off, o, rfl, hk o ⟨_, _, rfl⟩ h2, h3⟩⟩
theorem RW.les {σ σ' : Store} {s : AV} {l : List α} (h : RW σ s l) (g : LeS σ σ') : RW σ' s l := h.mono fun o _ ho => g.keep _ o ho
instance instRWGrow {σ σ' : Store} {s : AV} {l : List α} [g : Grow σ σ'] [h : RW σ s l] : RW σ' s l := h.mono fun o _ ho => g.keep _ o ho
instance instRWUpd {σa σ σ' : Store} {i : Nat} {o' : Ob} {s : AV} {l : List α} [g : Upd σ i o' σ'] [n : New σa i] [k : LeS σa σ] [h : RW σa s l] : RW σ' s l :=
  h.les (instLeUpd (h := k) (k := instLeRefl) (n := n) (g := g))
theorem RW.one {σ : Store} {s : AV} {l : List α} (h : RW σ s l) : One s := by
  rcases h.rep with ⟨_, a, c, rfl⟩ | ⟨id, off, o, rfl, _⟩ <;> exact ⟨rfl⟩
theorem RW.nil (σ : Store) (a : Option Addr) (c : Nat) : RW σ (.lit (.slice a 0 c)) ([] : List α) := ⟨by simp, .inl ⟨rfl, a, c, rfl⟩⟩
theorem RW.inner {σ : Store} {s : AV} {l : List α} (h : RW σ s l) (hl : 0 < l.length) : ∃ o, s = .sl s.id s.off l.length ∧ σ[s.id]? = some o ∧ o.readable ∧ o.esz = Enc.e α ∧ ∀ (k : Nat) (x : α), l[k]? = some x → cut o (s.off + k * Enc.e α) (Enc.e α) = Enc.enc x := by
  rcases h.rep with ⟨rfl, _⟩ | ⟨id, off, o, rfl, h2⟩
  · simp at hl
  · exact ⟨o, rfl, h2⟩
theorem rw_of_has {σ : Store} {i n : Nat} {l : List α} (h : Has σ i (Row l)) (hn : l.length = n) (hb : n ≤ 4294967296) : RW σ (.sl i 0 n) l := by
  subst hn
  exact ⟨hb, .inr ⟨i, 0, _, rfl, h.get, .inr rfl, rfl, fun k x hx => by rw [cut_cutL, Nat.zero_add]; exact rowCells_cut hx⟩⟩
theorem at_row {σ : Store} {s : AV} {l : List α} {k : Nat} (h : RW σ s l) (hk : k < l.length) : At σ s.id (s.off + k * Enc.e α) (Enc.e α) (Enc.enc (l.getD k Enc.dflt)) := by
  obtain ⟨o, h1, h2, h3, h4, h5⟩ := h.inner (by omega)
  refine ⟨o, h2, h3, ?_, Enc.len _⟩
  rw [h5 k (l.getD k Enc.dflt) (by simp [List.getD_eq_getElem?_getD, hk])]
theorem at_sub {σ : Store} {i off n j : Nat} {cs : List AV} {c : AV} (h : At σ i off n cs) (hc : cs[j]? = some c) : At σ i (off + j) 1 [c] := by
  obtain ⟨o, h1, h2, h3, h4⟩ := h.get
  refine ⟨o, h1, h2, ?_, rfl⟩
  subst h3
  have hj : (o.cells.drop off)[j]? = some c := by
    unfold cut at hc
    rw [List.getElem?_take] at hc
    split at hc
    · exact hc
    · cases hc
  rw [List.getElem?_drop] at hj
  unfold cut
  have hl : off + j < o.cells.length := by
    rcases Nat.lt_or_ge (off + j) o.cells.length with h | h
    · exact h
    · rw [List.getElem?_eq_none h] at hj; cases hj
  rw [List.drop_eq_getElem_cons hl, List.take_succ_cons, List.take_zero]
  rw [List.getElem?_eq_getElem hl] at hj
  rw [Option.some.inj hj]
theorem at_own {σ : Store} {i : Nat} {l : List α} {k : Nat} (h : Has σ i (Row l)) (hk : k < l.length) : At σ i (0 + k * Enc.e α) (Enc.e α) (Enc.enc (l.getD k Enc.dflt)) :=
  ⟨_, h.get, .inr rfl, by rw [cut_cutL, Nat.zero_add, rowCells_cut (x := l.getD k Enc.dflt) (by simp [List.getD_eq_getElem?_getD, hk])], Enc.len _⟩
theorem RW.appends {P : Program} {σ : Store} {s : AV} {l : List α} (h : RW σ s l) (h1 : ∀ x ∈ l, ∀ c ∈ Enc.enc x, c.one = true) : Appends P σ (Enc.e α) l.length s (rowCells l) := by
  have hall : ∀ c ∈ rowCells l, c.one = true := by
    intro c hc
    unfold rowCells at hc
    obtain ⟨x, hx, hc⟩ := List.mem_flatMap.mp hc
    exact h1 x hx c hc
  rcases h.rep with ⟨rfl, a, c, rfl⟩ | ⟨id, off, o, rfl, h2, h3, h4, h5⟩
  · refine ⟨by simp [rowCells], by simp [rowCells], fun base ρ w v hs hr => ?_⟩
    cases hr
    refine ⟨rfl, [], .nil, ?_⟩
    cases a with
    | none => rfl
    | some a =>
      have e : (Builtin.firstCells (Enc.e α) ([] : List α).length (.slice (some a) 0 c)) = loadCells a 0 := by simp [Builtin.firstCells]
      rw [e]; rfl
  · refine Appends.row h2 h3 ?_ (rowCells_length l) hall
    unfold cut
    apply List.ext_getElem?
    intro j
    rw [List.getElem?_take, List.getElem?_drop]
    have hpos := Enc.pos (α := α)
    split
    · rename_i hj
      have hd : j / Enc.e α < l.length := by
        rw [Nat.div_lt_iff_lt_mul hpos]; exact hj
      have e1 := h5 (j / Enc.e α) l[j / Enc.e α] (by simp [hd])
      have e2 := rowCells_cut (l := l) (k := j / Enc.e α) (x := l[j / Enc.e α]) (by simp [hd])
      have hm := Nat.mod_lt j hpos
      have hdm := Nat.div_add_mod j (Enc.e α)
      rw [Nat.mul_comm] at hdm
      have k1 : (cut o (off + j / Enc.e α * Enc.e α) (Enc.e α))[j % Enc.e α]? = o.cells[off + j]? := by
        unfold cut
        rw [List.getElem?_take, if_pos hm, List.getElem?_drop]; congr 1; omega
      have k2 : (cutL (rowCells l) (j / Enc.e α * Enc.e α) (Enc.e α))[j % Enc.e α]? = (rowCells l)[j]? := by
        unfold cutL
        rw [List.getElem?_take, if_pos hm, List.getElem?_drop]; congr 1
      rw [← k1, ← k2, e1, e2]
    · rename_i hj
      rw [List.getElem?_eq_none (by rw [rowCells_length]; omega)]
end

class OW (σ₀ : outParam Store) (σ : Store) (s : AV) {α : outParam Type} [Enc α] (l : outParam (List α)) : Prop where
  bound : l.length ≤ 4294967296
  rep : (l = [] ∧ s = nilS) ∨ ∃ id, s = .sl id 0 l.length ∧ σ₀.length ≤ id ∧ Has σ id (Row l)
section
variable {α : Type} [Enc α]
theorem OW.rw {σ₀ σ : Store} {s : AV} {l : List α} (h : OW σ₀ σ s l) : RW σ s l := by
  rcases h.rep with ⟨rfl, rfl⟩ | ⟨id, rfl, _, hh⟩
  · exact .nil _ _ _
  · exact rw_of_has hh rfl h.bound
instance instOW {σ₀ σ : Store} {s : AV} {l : List α} [h : OW σ₀ σ s l] : RW σ s l := h.rw
theorem OW.one {σ₀ σ : Store} {s : AV} {l : List α} (h : OW σ₀ σ s l) : One s := h.rw.one
theorem OW.keep {σ₀ σ σ' : Store} {s : AV} {l : List α} (h : OW σ₀ σ s l) (hk : ∀ (j : Nat) (o : Ob), σ₀.length ≤ j → (∃ n, s = .sl j 0 n) → σ[j]? = some o → σ'[j]? = some o) : OW σ₀ σ' s l :=
  ⟨h.bound, by
    rcases h.rep with h | ⟨id, rfl, h1, h2⟩
    · exact .inl h
    · exact .inr ⟨id, rfl, h1, ⟨hk _ _ h1 ⟨_, rfl⟩ h2.get⟩⟩⟩
instance instOWGrow {σ₀ σ σ' : Store} {s : AV} {l : List α} [g : Grow σ σ'] [h : OW σ₀ σ s l] : OW σ₀ σ' s l := h.keep fun j o _ _ ho => g.keep j o ho
instance instOWUpd {σ₀ σ σ' : Store} {i : Nat} {o o' : Ob} {s : AV} {l : List α} [g : Upd σ i o' σ'] [k : Has σ₀ i o] [h : OW σ₀ σ s l] : OW σ₀ σ' s l :=
  h.keep fun j x hj _ ho => by have := k.lt; rw [g.eq, List.getElem?_set_ne (by omega)]; exact ho
theorem OW.down {σ₀ σ₁ σ : Store} {s : AV} {l : List α} (h : OW σ₁ σ s l) (k : σ₀.length ≤ σ₁.length) : OW σ₀ σ s l :=
  ⟨h.bound, by
    rcases h.rep with h | ⟨id, h1, h2, h3⟩
    · exact .inl h
    · exact .inr ⟨id, h1, Nat.le_trans k h2, h3⟩⟩
theorem ow_of_has {σ₀ σ : Store} {i n : Nat} {l : List α} (h : Has σ i (Row l)) (hi : σ₀.length ≤ i) (hn : l.length = n) (hb : n ≤ 4294967296) : OW σ₀ σ (.sl i 0 n) l := by
  subst hn; exact ⟨hb, .inr ⟨i, rfl, hi, h⟩⟩
theorem OW.nilS (σ₀ σ : Store) : OW σ₀ σ Asl.nilS ([] : List α) := ⟨by simp, .inl ⟨rfl, rfl⟩⟩
def RetOW (σ : Store) (l : List α) : AV → Store → Prop := fun r σ' => OW σ σ' r l ∧ Grow σ σ'
theorem ret_ow {σ σ₁ σ' : Store} {s : AV} {l l' : List α} (h : OW σ₁ σ' s l') (k : LeS σ σ₁) (g : LeS σ σ') (e : l' = l) : RetOW σ l s σ' := by
  subst e; exact ⟨h.down k.len, g.grow⟩
end

class RRs (σ : Store) (ss : List AV) {α : outParam Type} [Enc α] (g : outParam (List (List α))) : Prop where
  len : ss.length = g.length
  row : ∀ k, RW σ (ss.getD k nilS) (g.getD k [])
section
variable {α : Type} [Enc α]
instance instRRsGrow {σ σ' : Store} {ss : List AV} {g : List (List α)} [gr : Grow σ σ'] [h : RRs σ ss g] : RRs σ' ss g := ⟨h.len, fun k => (h.row k).les ⟨gr.keep⟩⟩
instance instRRsUpd {σa σ σ' : Store} {i : Nat} {o' : Ob} {ss : List AV} {g : List (List α)} [u : Upd σ i o' σ'] [n : New σa i] [k : LeS σa σ] [h : RRs σa ss g] : RRs σ' ss g :=
  ⟨h.len, fun j => (h.row j).les (instLeUpd (h := k) (k := instLeRefl) (n := n) (g := u))⟩
theorem RRs.les {σ σ' : Store} {ss : List AV} {g : List (List α)} (h : RRs σ ss g) (l : LeS σ σ') : RRs σ' ss g := ⟨h.len, fun k => (h.row k).les l⟩
instance instRRsRow {σ : Store} {ss : List AV} {k : Nat} {g : List (List α)} [h : RRs σ ss g] : RW σ (ss.getD k nilS) (g.getD k []) := h.row k
instance instRRsRow' {σ : Store} {ss : List AV} {k : Nat} {g : List (List α)} [h : RRs σ ss g] : RW σ (ss.getD k Enc.dflt) (g.getD k []) := h.row k
theorem RRs.one {σ : Store} {ss : List AV} {g : List (List α)} (h : RRs σ ss g) : ∀ c ∈ ss, c.one = true := by
  intro c hc
  obtain ⟨k, hk, rfl⟩ := List.getElem_of_mem hc
  have := (h.row k).one.eq
  simpa [List.getD_eq_getElem?_getD, hk] using this

class ORs (σ₀ : outParam Store) (σ : Store) (ss : List AV) {α : outParam Type} [Enc α] (g : outParam (List (List α))) : Prop where
  len : ss.length = g.length
  row : ∀ k, OW σ₀ σ (ss.getD k nilS) (g.getD k [])
  apart : ∀ (j k id n m : Nat), ss[j]? = some (.sl id 0 n) → ss[k]? = some (.sl id 0 m) → j = k
theorem ORs.rrs {σ₀ σ : Store} {ss : List AV} {g : List (List α)} (h : ORs σ₀ σ ss g) : RRs σ ss g := ⟨h.len, fun k => (h.row k).rw⟩
instance instORs {σ₀ σ : Store} {ss : List AV} {g : List (List α)} [h : ORs σ₀ σ ss g] : RRs σ ss g := h.rrs
theorem ORs.keep {σ₀ σ σ' : Store} {ss : List AV} {g : List (List α)} (h : ORs σ₀ σ ss g) (hk : ∀ (j : Nat) (o : Ob), σ₀.length ≤ j → (∃ n, (AV.sl j 0 n) ∈ ss) → σ[j]? = some o → σ'[j]? = some o) : ORs σ₀ σ' ss g :=
  ⟨h.len, fun k => (h.row k).keep fun j o hj ⟨n, e⟩ ho => hk j o hj ⟨n, by
    by_cases hk' : k < ss.length
    · rw [← e]; simp [List.getD_eq_getElem?_getD, hk']
    · rw [List.getD_eq_getElem?_getD, List.getElem?_eq_none (by omega)] at e; cases e⟩ ho, h.apart⟩
instance instORsGrow {σ₀ σ σ' : Store} {ss : List AV} {g : List (List α)} [gr : Grow σ σ'] [h : ORs σ₀ σ ss g] : ORs σ₀ σ' ss g := h.keep fun j o _ _ ho => gr.keep j o ho
instance instORsUpd {σ₀ σ σ' : Store} {i : Nat} {o o' : Ob} {ss : List AV} {g : List (List α)} [u : Upd σ i o' σ'] [k : Has σ₀ i o] [h : ORs σ₀ σ ss g] : ORs σ₀ σ' ss g :=
  h.keep fun j x hj _ ho => by have := k.lt; rw [u.eq, List.getElem?_set_ne (by omega)]; exact ho
theorem ORs.down {σ₀ σ₁ σ : Store} {ss : List AV} {g : List (List α)} (h : ORs σ₁ σ ss g) (k : σ₀.length ≤ σ₁.length) : ORs σ₀ σ ss g := ⟨h.len, fun j => (h.row j).down k, h.apart⟩
theorem ORs.nil (σ₀ σ : Store) : ORs σ₀ σ [] ([] : List (List α)) := ⟨rfl, fun k => by simpa using OW.nilS σ₀ σ, fun j k id n m h => by simp at h⟩
theorem ORs.lt {σ₀ σ : Store} {ss : List AV} {g : List (List α)} (h : ORs σ₀ σ ss g) {i n : Nat} (hi : AV.sl i 0 n ∈ ss) : i < σ.length := by
  obtain ⟨k, hk, e⟩ := List.getElem_of_mem hi
  have e' : ss.getD k nilS = .sl i 0 n := by simp [List.getD_eq_getElem?_getD, hk, e]
  rcases (h.row k).rep with ⟨_, h1⟩ | ⟨id, h1, _, h3⟩
  · rw [e'] at h1; cases h1
  · rw [e'] at h1; cases h1; exact h3.lt
theorem ORs.snoc {σ₀ σ₁ σ' : Store} {ss : List AV} {g : List (List α)} {u : AV} {l : List α} (h : ORs σ₀ σ₁ ss g) (h' : ORs σ₀ σ' ss g) (h01 : σ₀.length ≤ σ₁.length) (hu : OW σ₁ σ' u l) : ORs σ₀ σ' (ss ++ [u]) (g ++ [l]) := by
  have hl := h.len
  refine ⟨by simp [hl], fun k => ?_, fun j k id n m hj hk' => ?_⟩
  · simp only [List.getD_eq_getElem?_getD, List.getElem?_append]
    by_cases e : k < ss.length
    · rw [if_pos e, if_pos (by omega)]
      simpa [List.getD_eq_getElem?_getD] using h'.row k
    · rw [if_neg e, if_neg (by omega), hl]
      by_cases e2 : k = g.length
      · subst e2; simpa using hu.down h01
      · rw [List.getElem?_eq_none (by simp; omega), List.getElem?_eq_none (by simp; omega)]
        exact OW.nilS _ _
  · have key : ∀ n, u = AV.sl id 0 n → σ₁.length ≤ id := by
      intro n e
      rcases hu.rep with ⟨_, h1⟩ | ⟨i, h1, h2, _⟩
      · rw [e] at h1; cases h1
      · rw [e] at h1; cases h1; exact h2
    have key2 : ∀ k n, ss[k]? = some (AV.sl id 0 n) → id < σ₁.length := fun k n e => h.lt (List.mem_of_getElem? e)
    rw [List.getElem?_append] at hj hk'
    split at hj <;> split at hk'
    · exact h.apart j k id n m hj hk'
    · rename_i h1 h2
      have := key2 _ _ hj
      cases hx : k - ss.length with
      | zero => rw [hx] at hk'; simp at hk'; have := key _ hk'; omega
      | succ z => rw [hx] at hk'; simp at hk'
    · rename_i h1 h2
      have := key2 _ _ hk'
      cases hx : j - ss.length with
      | zero => rw [hx] at hj; simp at hj; have := key _ hj; omega
      | succ z => rw [hx] at hj; simp at hj
    · rename_i h1 h2
      cases hx : j - ss.length with
      | zero =>
        cases hy : k - ss.length with
        | zero => omega
        | succ z => rw [hy] at hk'; simp at hk'
      | succ z => rw [hx] at hj; simp at hj
def RetORs (σ : Store) (g : List (List α)) : AV → Store → Prop := fun r σ' => ∃ ss, OW σ σ' r ss ∧ ORs σ σ' ss g ∧ Grow σ σ'
def RetG (σ : Store) (g : Gr) : AV → Store → Prop := fun r σ' => ∃ s ss, r = .agg [s] ∧ OW σ σ' s ss ∧ ORs σ σ' ss g ∧ Grow σ σ'
theorem ret_g {σ σ₁ σ₂ σ' : Store} {s : AV} {ss : List AV} {g g' : Gr} (h : OW σ₁ σ' s ss) (k : LeS σ σ₁) (h' : ORs σ₂ σ' ss g') (k' : LeS σ σ₂) (l : LeS σ σ') (e : g' = g) : RetG σ g (.agg [s]) σ' := by
  subst e; exact ⟨s, ss, rfl, h.down k.len, h'.down k'.len, l.grow⟩
end

section
variable {E : Env} {ops : Array Oper} {l : List Oper} {Q : Exit → Slots → Store → Prop} {S : Slots} {σ : Store} {d : Option Tmp} {ty : TypeId} {pos : String} {af : Array Edge} {g : Option (Nat × Bool)} {n0 : Nat} {x y : Operand} {α : Type} [Enc α]
theorem po_len_lit' {t e : TypeId} {a : Option Addr} {n c : Nat} (hx : S.ev x = some (.lit (.slice a n c))) (ht : E.P.underlying t = some (.slice e)) :
    PO E S σ n0 ⟨d, .call ⟨.builtin .len, #[x], #[t]⟩, ty, pos, af, g⟩ (.lit (.int .i64 (n : Int))) := by
  intro A w ρ W0 hw hag hn
  have e1 := R_lit (hw.ev hx)
  refine ⟨_, .lit _, fun w' _ => ?_⟩
  simp [execOp, resolve, invoke, builtin, Builtin.len_, e1, underlying, ht, goInt]
theorem pc_lenRow {σ₀ : Store} {t e : TypeId} {s : AV} {xs : List α} (hx : S.ev x = some s) (h : RW σ₀ s xs) (ht : Un E.P t (.slice e)) :
    PO E S σ σ₀.length ⟨d, .call ⟨.builtin .len, #[x], #[t]⟩, ty, pos, af, g⟩ (I xs.length) := by
  rcases h.rep with ⟨rfl, a, c, rfl⟩ | ⟨id, off, o, rfl, _⟩
  · exact po_len_lit' hx ht.eq
  · exact po_len (ri := 0) hx ht.eq
theorem pc_indexRow {σ₀ : Store} {t e : TypeId} {s : AV} {xs : List α} {i : Nat} {agg : Bool} {size bytes : Nat} {z : Value} (hx : S.ev x = some s) (hy : S.ev y = some (I (i : Int))) (ht : Un E.P t (.slice e)) (he : Ty E.P e agg size bytes z) (h : RW σ₀ s xs)
    (h1 : i < xs.length) : PO E S σ σ₀.length ⟨d, .indexAddr t x y, ty, pos, af, g⟩ (.pt s.id (s.off + i * size)) := by
  obtain ⟨o, h2, _⟩ := h.inner (by omega)
  rw [h2] at hx
  exact pc_indexAddr hx hy ht he h1
theorem pc_indexRowZ {σ₀ : Store} {t e : TypeId} {s : AV} {xs : List α} {i : Int} {agg : Bool} {size bytes : Nat} {z : Value} (hx : S.ev x = some s) (hy : S.ev y = some (I i)) (ht : Un E.P t (.slice e)) (he : Ty E.P e agg size bytes z) (h : RW σ₀ s xs)
    (h0 : 0 ≤ i) (h1 : i < xs.length) : PO E S σ σ₀.length ⟨d, .indexAddr t x y, ty, pos, af, g⟩ (.pt s.id (s.off + i.toNat * size)) := by
  obtain ⟨o, h2, _⟩ := h.inner (by omega)
  rw [h2] at hx
  have e : i = ((i.toNat : Nat) : Int) := by omega
  rw [e] at hy
  exact pc_indexAddr hx hy ht he (by omega)
theorem pc_indexSlZ {t e : TypeId} {id off len : Nat} {i : Int} {agg : Bool} {size bytes : Nat} {z : Value} (hx : S.ev x = some (.sl id off len)) (hy : S.ev y = some (I i)) (ht : Un E.P t (.slice e)) (he : Ty E.P e agg size bytes z)
    (h0 : 0 ≤ i) (h1 : i < len) : PO E S σ n0 ⟨d, .indexAddr t x y, ty, pos, af, g⟩ (.pt id (off + i.toNat * size)) := by
  have e : i = ((i.toNat : Nat) : Int) := by omega
  rw [e] at hy
  exact pc_indexAddr hx hy ht he (by omega)
theorem wc_storeEl {t : TypeId} {agg : Bool} {bytes : Nat} {z : Value} {id : Nat} {xs : List α} {k : Nat} {u : α} {v : AV} (hx : S.ev x = some (.pt id (0 + k * Enc.e α))) (hy : S.ev y = some v) (ht : Ty E.P t agg (Enc.e α) bytes z) (ho : Has σ id (Row xs))
    (hv : v.cells = Enc.enc u) (h1 : ∀ c ∈ Enc.enc u, c.one = true) (hk : k < xs.length) (hm : E.may id)
    (kk : ∀ σ', Upd σ id (Row (xs.set k u)) σ' → WL E ops l Q S σ') : WL E ops (⟨none, .store t x y, ty, pos, af, none⟩ :: l) Q S σ :=
  wc_store hx hy ht ho hv (Enc.len _) h1 (by rw [rowCells_length]; have := Nat.mul_le_mul_right (Enc.e α) (show k + 1 ≤ xs.length from hk); rw [Nat.add_mul] at this; omega) (by rw [Nat.zero_add]; exact rowCells_set u hk) hm kk
theorem wc_makeRow {t e : TypeId} {n : Nat} {agg : Bool} {size bytes : Nat} {z : Value} (hx : S.ev x = some (I (n : Int))) (hy : S.ev y = some (I (n : Int))) (ht : Un E.P t (.slice e)) (he : Ty E.P e agg size bytes z) (hs : size = Enc.e α) (hz : z.cells.toList.map AV.lit = Enc.enc (Enc.dflt : α)) (hz1 : ∀ v ∈ z.cells.toList, v.oneCell' = true)
    (hlim : n * bytes ≤ 281474976710656) (h63 : (n : Int) ≤ 9223372036854775807) (hd : okd E d = true)
    (k : ∀ i σ', Grow σ σ' → New σ i → Has σ' i (Row (List.replicate n (Enc.dflt : α))) → WL E ops l Q (S.put d (.sl i 0 n)) σ') : WL E ops (⟨d, .makeSlice t x y, ty, pos, af, none⟩ :: l) Q S σ := by
  subst hs
  have hzl : z.cells.size = Enc.e α := by
    have := congrArg List.length hz
    rw [Enc.len] at this; simpa using this
  refine wc_makeSlice hx hy ht.eq he hzl Enc.pos hz1 hlim h63 hd fun i σ' hg hn hh => k i σ' hg hn ?_
  have e : ((List.range (n * Enc.e α)).map fun i => AV.lit (z.cells.toList.getD (i % Enc.e α) undef)) = rowCells (List.replicate n (Enc.dflt : α)) := by
    have hpos := Enc.pos (α := α)
    apply List.ext_getElem?
    intro j
    rw [List.getElem?_map]
    rcases Nat.lt_or_ge j (n * Enc.e α) with hj | hj
    · rw [List.getElem?_range hj]
      have hd' : j / Enc.e α < n := by rw [Nat.div_lt_iff_lt_mul hpos]; exact hj
      have hm := Nat.mod_lt j hpos
      have e2 := rowCells_cut (l := List.replicate n (Enc.dflt : α)) (k := j / Enc.e α) (x := Enc.dflt) (by rw [List.getElem?_replicate, if_pos hd'])
      have hdm := Nat.div_add_mod j (Enc.e α)
      rw [Nat.mul_comm] at hdm
      have k2 : (cutL (rowCells (List.replicate n (Enc.dflt : α))) (j / Enc.e α * Enc.e α) (Enc.e α))[j % Enc.e α]? = (rowCells (List.replicate n (Enc.dflt : α)))[j]? := by
        unfold cutL
        rw [List.getElem?_take, if_pos hm, List.getElem?_drop]; congr 1
      rw [← k2, e2, ← hz, List.getElem?_map]
      have hlt : j % Enc.e α < z.cells.toList.length := by simpa [hzl] using hm
      rw [List.getElem?_eq_getElem hlt]
      simp [List.getD_eq_getElem?_getD, hzl, hm]
    · rw [List.getElem?_eq_none (by simpa using hj), List.getElem?_eq_none (by rw [rowCells_length, List.length_replicate]; exact hj)]; rfl
  rw [e] at hh; exact hh

structure App (σ₀ σ : Store) (s s' : AV) (σ' : Store) : Prop where
  keep : ∀ (j : Nat) (o : Ob), (j < σ₀.length ∨ ∀ n, s ≠ .sl j 0 n) → σ[j]? = some o → σ'[j]? = some o
  len : σ.length ≤ σ'.length
  fresh : s' = s ∨ ∃ j n, s' = .sl j 0 n ∧ σ.length ≤ j
theorem App.les {σa σ₀ σ σ' : Store} {s s' : AV} (h : App σ₀ σ s s' σ') (k : σa.length ≤ σ₀.length) (g : LeS σa σ) : LeS σa σ' :=
  ⟨fun i o ho => h.keep i o (.inl (Nat.lt_of_lt_of_le (Has.lt ⟨ho⟩) k)) (g.keep i o ho)⟩
theorem wc_appendRow {t e : TypeId} {s y' : AV} {xs ys : List α} {σ₀ : Store} {agg : Bool} {bytes : Nat} {z : Value} (hx : S.ev x = some s) (hy : S.ev y = some y') (ht : Un E.P t (.slice e)) (he : Ty E.P e agg (Enc.e α) bytes z) (hz : z.cells.size = Enc.e α) (hb0 : 0 < bytes)
    (hs : OW σ₀ σ s xs) (hys : RW σ y' ys) (h1 : ∀ x ∈ ys, ∀ c ∈ Enc.enc x, c.one = true) (hlen : xs.length + ys.length ≤ 4294967296) (hb : bytes ≤ 4096) (hm : ∀ id, σ₀.length ≤ id → E.may id) (h0 : σ₀.length ≤ σ.length) (hd : okd E d = true)
    (hne : s = nilS → 0 < ys.length)
    (k : ∀ s' σ', App σ₀ σ s s' σ' → OW σ₀ σ' s' (xs ++ ys) → One s' → WL E ops l Q (S.put d s') σ') :
    WL E ops (⟨d, .call ⟨.builtin .append, #[x, y], #[t, t]⟩, ty, pos, af, none⟩ :: l) Q S σ := by
  have hap := hys.appends (P := E.P) h1
  have hlim : ∀ n, n ≤ 4294967296 → n * bytes ≤ 140737488355328 := fun n hn => by
    have := Nat.mul_le_mul hn hb
    omega
  rcases hs.rep with ⟨rfl, rfl⟩ | ⟨id, rfl, hid, hh⟩
  · refine wc_append_nil hx hy ht.eq he hz hb0 hap (hne rfl) (hlim _ (by simpa using hlen)) hd fun i σ' hg hn hh => ?_
    refine k _ σ' ⟨fun j o _ ho => hg.keep j o ho, hg.len, .inr ⟨_, _, rfl, hn.le⟩⟩ ?_ ⟨rfl⟩
    rw [List.nil_append]
    exact ow_of_has hh (Nat.le_trans h0 hn.le) rfl (by simpa using hlen)
  · refine wc_append hx hy ht.eq he hz hb0 hh rfl (rowCells_length xs) hap (hm _ hid) (hlim _ hlen) hd fun i σ₁ σ' hu hg hn hh' => ?_
    rw [← rowCells_append] at hh'
    refine k _ σ' ⟨fun j o hj ho => ?_, ?_, .inr ⟨_, _, rfl, hn.le⟩⟩ (ow_of_has hh' (Nat.le_trans h0 hn.le) (by simp) hlen) ⟨rfl⟩
    · refine hg.keep j o ?_
      rw [hu.eq, List.getElem?_set_ne]
      · exact ho
      · rcases hj with hj | hj
        · omega
        · intro e; subst e; exact hj _ rfl
    · have h2 : σ₁.length = σ.length := by rw [hu.eq]; simp
      have := hg.len
      omega
end
section
variable {E : Env} {ops : Array Oper} {l : List Oper} {Q : Exit → Slots → Store → Prop} {S : Slots} {σ : Store} {d : Option Tmp} {ty : TypeId} {pos : String} {af : Array Edge} {x y : Operand}
theorem wc_callG {args : Array Operand} {ats : Array TypeId} {f : FuncId} {rs caps : List AV} {g : Gr} (hf : S.ev x = some (.fn f caps)) (hc : Callable E.P f) (hargs : evs S args.toList = some rs)
    (h : ACall E.P E.base f (rs ++ caps) σ (fun _ => False) (RetG σ g)) (hd : okd E d = true) (k : ∀ u us σ', One u → OW σ σ' u us → ORs σ σ' us g → Grow σ σ' → WL E ops l Q (S.put d (.agg [u])) σ') :
    WL E ops (⟨d, .call ⟨.value x, args, ats⟩, ty, pos, af, none⟩ :: l) Q S σ :=
  wc_call hf hc hargs h hd fun r' σ' h => by obtain ⟨s, ss, e, h1, h2, hg⟩ := h; subst e; exact k s ss σ' h1.one h1 h2 hg
theorem wc_callOW {α : Type} [Enc α] {args : Array Operand} {ats : Array TypeId} {f : FuncId} {rs caps : List AV} {xs : List α} (hf : S.ev x = some (.fn f caps)) (hc : Callable E.P f) (hargs : evs S args.toList = some rs)
    (h : ACall E.P E.base f (rs ++ caps) σ (fun _ => False) (RetOW σ xs)) (hd : okd E d = true) (k : ∀ u σ', One u → OW σ σ' u xs → Grow σ σ' → WL E ops l Q (S.put d u) σ') :
    WL E ops (⟨d, .call ⟨.value x, args, ats⟩, ty, pos, af, none⟩ :: l) Q S σ :=
  wc_call hf hc hargs h hd fun r' σ' h => by obtain ⟨h1, hg⟩ := h; exact k r' σ' h1.one h1 hg
theorem wc_callORs {α : Type} [Enc α] {args : Array Operand} {ats : Array TypeId} {f : FuncId} {rs caps : List AV} {g : List (List α)} (hf : S.ev x = some (.fn f caps)) (hc : Callable E.P f) (hargs : evs S args.toList = some rs)
    (h : ACall E.P E.base f (rs ++ caps) σ (fun _ => False) (RetORs σ g)) (hd : okd E d = true) (k : ∀ u us σ', One u → OW σ σ' u us → ORs σ σ' us g → Grow σ σ' → WL E ops l Q (S.put d u) σ') :
    WL E ops (⟨d, .call ⟨.value x, args, ats⟩, ty, pos, af, none⟩ :: l) Q S σ :=
  wc_call hf hc hargs h hd fun r' σ' h => by obtain ⟨ss, h1, h2, hg⟩ := h; exact k r' ss σ' h1.one h1 h2 hg
end
end Go.Proofs.YthbodgnoadlbcaaGreatDoor.Asl

/- Rules for loads and stores of rows' elements, a type each. Written by a program of this session. -/
namespace Go.Proofs.YthbodgnoadlbcaaGreatDoor.Asl
open Go.RowKit Go.Proofs.YthbodgnoadlbcaaGreatDoorW.PrintLast
set_option linter.unusedVariables false
set_option linter.unusedSimpArgs false
section
variable {E : Env} {ops : Array Oper} {L : List Oper} {Q : Exit → Slots → Store → Prop} {S : Slots} {σ σ₀ : Store} {d : Option Tmp} {ty : TypeId} {pos : String} {af : Array Edge} {g : Option (Nat × Bool)} {x y : Operand} {t : TypeId} {bytes : Nat} {z : Value} {s : AV} {k i : Nat}
theorem pc_ldNat {l : List Nat} (hx : S.ev x = some (.pt s.id (s.off + k * 1))) (ht : Ty E.P t false 1 bytes z) (h : RW σ₀ s l) (hk : k < l.length) (hl : LeS σ₀ σ) : PO E S σ σ₀.length ⟨d, .load t x, ty, pos, af, g⟩ (I ((l.getD k 0 : Nat) : Int)) :=
  pc_load1L hx ht (at_row h hk) hl
theorem wc_stNat {l : List Nat} {u : Nat} (hx : S.ev x = some (.pt i (0 + k * 1))) (hy : S.ev y = some (I (u : Int))) (ht : Ty E.P t false 1 bytes z) (ho : Has σ i (Row l)) (hk : k < l.length) (hm : E.may i)
    (kk : ∀ σ', Upd σ i (Row (l.set k u)) σ' → WL E ops L Q S σ') : WL E ops (⟨none, .store t x y, ty, pos, af, none⟩ :: L) Q S σ :=
  wc_storeEl (α := Nat) hx hy ht ho (rfl) (fun c hc => by simp [Enc.enc] at hc; subst hc; exact rfl) hk hm kk
theorem pc_ldInt {l : List Int} (hx : S.ev x = some (.pt s.id (s.off + k * 1))) (ht : Ty E.P t false 1 bytes z) (h : RW σ₀ s l) (hk : k < l.length) (hl : LeS σ₀ σ) : PO E S σ σ₀.length ⟨d, .load t x, ty, pos, af, g⟩ (I (l.getD k 0)) :=
  pc_load1L hx ht (at_row h hk) hl
theorem pc_ldAV {l : List AV} (hx : S.ev x = some (.pt s.id (s.off + k * 1))) (ht : Ty E.P t false 1 bytes z) (h : RW σ₀ s l) (hk : k < l.length) (hl : LeS σ₀ σ) : PO E S σ σ₀.length ⟨d, .load t x, ty, pos, af, g⟩ ((l.getD k nilS)) :=
  pc_load1L hx ht (at_row h hk) hl
theorem pc_loAV {l : List AV} (hx : S.ev x = some (.pt i (0 + k * 1))) (ht : Ty E.P t false 1 bytes z) (h : Has σ₀ i (Row l)) (hk : k < l.length) (hl : LeS σ₀ σ) : PO E S σ σ₀.length ⟨d, .load t x, ty, pos, af, g⟩ ((l.getD k nilS)) :=
  pc_load1L hx ht (at_own h hk) hl
theorem wc_stAV {l : List AV} {u : AV} [h1 : One u] (hx : S.ev x = some (.pt i (0 + k * 1))) (hy : S.ev y = some (u)) (ht : Ty E.P t false 1 bytes z) (ho : Has σ i (Row l)) (hk : k < l.length) (hm : E.may i)
    (kk : ∀ σ', Upd σ i (Row (l.set k u)) σ' → WL E ops L Q S σ') : WL E ops (⟨none, .store t x y, ty, pos, af, none⟩ :: L) Q S σ :=
  wc_storeEl (α := AV) hx hy ht ho (AV.cells_one h1.eq) (fun c hc => by simp [Enc.enc] at hc; subst hc; exact h1.eq) hk hm kk
theorem pc_ldStr {l : List ByteArray} (hx : S.ev x = some (.pt s.id (s.off + k * 1))) (ht : Ty E.P t false 1 bytes z) (h : RW σ₀ s l) (hk : k < l.length) (hl : LeS σ₀ σ) : PO E S σ σ₀.length ⟨d, .load t x, ty, pos, af, g⟩ (Str (l.getD k ⟨#[]⟩)) :=
  pc_load1L hx ht (at_row h hk) hl
theorem pc_ldMv {l : List Mv} (hx : S.ev x = some (.pt s.id (s.off + k * 2))) (ht : Ty E.P t true 2 bytes z) (h : RW σ₀ s l) (hk : k < l.length) (hl : LeS σ₀ σ) : PO E S σ σ₀.length ⟨d, .load t x, ty, pos, af, g⟩ (.agg [I (l.getD k (0, 0)).1, I (l.getD k (0, 0)).2]) :=
  pc_loadnL hx ht (at_row h hk) hl
theorem pc_loMv {l : List Mv} (hx : S.ev x = some (.pt i (0 + k * 2))) (ht : Ty E.P t true 2 bytes z) (h : Has σ₀ i (Row l)) (hk : k < l.length) (hl : LeS σ₀ σ) : PO E S σ σ₀.length ⟨d, .load t x, ty, pos, af, g⟩ (.agg [I (l.getD k (0, 0)).1, I (l.getD k (0, 0)).2]) :=
  pc_loadnL hx ht (at_own h hk) hl
theorem pc_ldMv1 {l : List Mv} (hx : S.ev x = some (.pt s.id (s.off + k * 2 + 0))) (ht : Ty E.P t false 1 bytes z) (h : RW σ₀ s l) (hk : k < l.length) (hl : LeS σ₀ σ) : PO E S σ σ₀.length ⟨d, .load t x, ty, pos, af, g⟩ (I (l.getD k (0, 0)).1) :=
  pc_load1L hx ht (at_sub (at_row h hk) rfl) hl
theorem pc_ldMv2 {l : List Mv} (hx : S.ev x = some (.pt s.id (s.off + k * 2 + 1))) (ht : Ty E.P t false 1 bytes z) (h : RW σ₀ s l) (hk : k < l.length) (hl : LeS σ₀ σ) : PO E S σ σ₀.length ⟨d, .load t x, ty, pos, af, g⟩ (I (l.getD k (0, 0)).2) :=
  pc_load1L hx ht (at_sub (at_row h hk) rfl) hl
end
end Go.Proofs.YthbodgnoadlbcaaGreatDoor.Asl

/- Lists that are filled, and lists that agree so far. -/
namespace Go.Proofs.YthbodgnoadlbcaaGreatDoor.Asl
open Go.RowKit
set_option linter.unusedVariables false

theorem take_eq_succ {α : Type} {l r : List α} {k : Nat} {d : α} (h : l.take k = r.take k) (h1 : k < l.length) (h2 : k < r.length) (e : l.getD k d = r.getD k d) : l.take (k + 1) = r.take (k + 1) := by
  rw [List.take_succ_eq_append_getElem h1, List.take_succ_eq_append_getElem h2, h]
  simp [List.getD_eq_getElem?_getD, h1, h2] at e
  rw [e]

theorem getD_set_eq {α : Type} {l : List α} {k : Nat} {x d : α} (h : k < l.length) : (l.set k x).getD k d = x := by simp [List.getD_eq_getElem?_getD, h]
theorem getD_set_ne {α : Type} {l : List α} {j k : Nat} {x d : α} (h : k ≠ j) : (l.set k x).getD j d = l.getD j d := by simp [List.getD_eq_getElem?_getD, List.getElem?_set_ne h]
theorem getD_lt {α : Type} {l : List α} {k : Nat} {d : α} (h : k < l.length) : l.getD k d = l[k] := by simp [List.getD_eq_getElem?_getD, h]
theorem getD_ge {α : Type} {l : List α} {k : Nat} {d : α} (h : l.length ≤ k) : l.getD k d = d := by simp [List.getD_eq_getElem?_getD, h]
theorem getD_all {α : Type} {l : List α} {d : α} {p : α → Prop} (h : ∀ x ∈ l, p x) (hd : p d) (k : Nat) : p (l.getD k d) := by
  rcases Nat.lt_or_ge k l.length with h1 | h1
  · rw [getD_lt h1]; exact h _ (List.getElem_mem _)
  · rw [getD_ge h1]; exact hd
theorem take_succ_getD {α : Type} {l : List α} {k : Nat} {d : α} (h : k < l.length) : l.take (k + 1) = l.take k ++ [l.getD k d] := by
  rw [List.take_succ_eq_append_getElem h, getD_lt h]
end Go.Proofs.YthbodgnoadlbcaaGreatDoor.Asl

/- Rules for rows that are written down and appended to. -/
namespace Go.Proofs.YthbodgnoadlbcaaGreatDoor.Asl
open Go.RowKit Go.Proofs.YthbodgnoadlbcaaGreatDoorW.PrintLast
set_option linter.unusedVariables false
set_option linter.unusedSimpArgs false

theorem may_ge {σs : Store} (σ₀ : Store) {T : Nat → Prop} [h : LeS σs σ₀] : ∀ id, σ₀.length ≤ id → T id ∨ σs.length ≤ id := fun _ hi => .inr (Nat.le_trans h.len hi)
theorem App.turned {σ₀ σ σ' : Store} {s s' : AV} (h : App σ₀ σ s s' σ') : Mk σ σ₀ σ σ' := ⟨fun j o hj ho => h.keep j o (hj.elim .inl fun h1 => by have := Has.lt (σ := σ) (i := j) ⟨ho⟩; omega) ho⟩
instance instOWUpdNew {α : Type} [Enc α] {σ₀ σa σ σ' : Store} {i : Nat} {o' : Ob} {s : AV} {l : List α} [u : Upd σ i o' σ'] [n : New σa i] [k : LeS σa σ] [h : OW σ₀ σa s l] : OW σ₀ σ' s l :=
  h.keep fun j x _ _ ho => (instLeUpd (h := k) (k := instLeRefl) (n := n) (g := u)).keep j x ho
instance instORsUpdNew {α : Type} [Enc α] {σ₀ σa σ σ' : Store} {i : Nat} {o' : Ob} {ss : List AV} {g : List (List α)} [u : Upd σ i o' σ'] [n : New σa i] [k : LeS σa σ] [h : ORs σ₀ σa ss g] : ORs σ₀ σ' ss g :=
  h.keep fun j x _ _ ho => (instLeUpd (h := k) (k := instLeRefl) (n := n) (g := u)).keep j x ho
instance instOWMkOld {α : Type} [Enc α] {σ₀ σ σa σb σ' : Store} {s : AV} {l : List α} [m : Mk σ σa σb σ'] [k : LeS σa σ] [h : OW σ₀ σa s l] : OW σ₀ σ' s l :=
  h.keep fun j x _ _ ho => m.keep j x (.inl (Has.lt ⟨ho⟩)) (k.keep j x ho)
instance instORsMkOld {α : Type} [Enc α] {σ₀ σ σa σb σ' : Store} {ss : List AV} {g : List (List α)} [m : Mk σ σa σb σ'] [k : LeS σa σ] [h : ORs σ₀ σa ss g] : ORs σ₀ σ' ss g :=
  h.keep fun j x _ _ ho => m.keep j x (.inl (Has.lt ⟨ho⟩)) (k.keep j x ho)
theorem App.ow {α : Type} [Enc α] {σ₀ σ₁ σ σ' : Store} {s s' u : AV} {l : List α} (h : App σ₀ σ s s' σ') (hu : OW σ₁ σ u l) (hne : ∀ j n m, s = .sl j 0 n → u ≠ .sl j 0 m) : OW σ₁ σ' u l :=
  hu.keep fun j o _ ⟨n, e⟩ ho => h.keep j o (.inr fun m em => hne j m n em e) ho
theorem App.ors {α : Type} [Enc α] {σ₀ σ₁ σ σ' : Store} {s s' : AV} {ss : List AV} {g : List (List α)} (h : App σ₀ σ s s' σ') (hu : ORs σ₁ σ ss g) (hne : ∀ j n m, s = .sl j 0 n → AV.sl j 0 m ∉ ss) : ORs σ₁ σ' ss g :=
  hu.keep fun j o _ ⟨n, hn⟩ ho => h.keep j o (.inr fun m em => hne j m n em hn) ho
theorem App.has {σ₀ σ σ' : Store} {s s' : AV} {i : Nat} {o : Ob} (h : App σ₀ σ s s' σ') (hh : Has σ i o) (hne : ∀ n, s ≠ .sl i 0 n) : Has σ' i o := ⟨h.keep i o (.inr hne) hh.get⟩
theorem ow_ne_of_esz {α β : Type} [Enc α] [Enc β] {σ₀ σ₁ σ : Store} {s u : AV} {l : List α} {r : List β} (h : OW σ₀ σ s l) (k : OW σ₁ σ u r) (hne : Enc.e α ≠ Enc.e β) : ∀ j n m, s = .sl j 0 n → u ≠ .sl j 0 m := by
  rintro j n m rfl rfl
  rcases h.rep with ⟨_, e⟩ | ⟨i, e, _, h1⟩
  · cases e
  · cases e
    rcases k.rep with ⟨_, e⟩ | ⟨i, e, _, h2⟩
    · cases e
    · cases e
      have := h1.get.symm.trans h2.get
      simp at this
      exact hne this.1
theorem ors_ne_of_esz {α β : Type} [Enc α] [Enc β] {σ₀ σ₁ σ : Store} {s : AV} {ss : List AV} {l : List α} {r : List (List β)} (h : OW σ₀ σ s l) (k : ORs σ₁ σ ss r) (hne : Enc.e α ≠ Enc.e β) : ∀ j n m, s = .sl j 0 n → AV.sl j 0 m ∉ ss := by
  rintro j n m rfl hm
  obtain ⟨q, hq, e⟩ := List.getElem_of_mem hm
  have e' : ss.getD q nilS = .sl j 0 m := by simp [List.getD_eq_getElem?_getD, hq, e]
  exact ow_ne_of_esz h (k.row q) hne j n m rfl e'

section
variable {E : Env} {ops : Array Oper} {l : List Oper} {Q : Exit → Slots → Store → Prop} {S : Slots} {σ σ₀ : Store} {d : Option Tmp} {ty : TypeId} {pos : String} {af : Array Edge} {g : Option (Nat × Bool)} {n0 : Nat} {x y : Operand} {t e : TypeId}
theorem pc_buildMv {bytes : Nat} {z : Value} {a b : Int} (hx : S.ev x = some (I a)) (hy : S.ev y = some (I b)) (hst : StructAt E.P t [(0, 1), (1, 1)]) (ht : Ty E.P t true 2 bytes z) (hz : z.cells.toList = [.int .i64 0, .int .i64 0]) :
    PO E S σ n0 ⟨d, .build t #[(0, x), (1, y)], ty, pos, af, g⟩ (.agg [I a, I b]) := by
  have hzs : z.cells.size = 2 := by rw [← Array.length_toList, hz]; rfl
  refine po_build (rs := [(0, I a), (1, I b)]) hst ht (by simp [evParts, hx, hy]) ?_ ?_
  · intro r hr
    simp only [List.mem_cons, List.not_mem_nil, or_false] at hr
    rcases hr with rfl | rfl
    · exact ⟨0, 1, rfl, rfl, by omega⟩
    · exact ⟨1, 1, rfl, rfl, by omega⟩
  · rw [hz]; rfl
theorem pc_build0 {size bytes : Nat} {z : Value} {cs : List AV} {places : List (Nat × Nat)} (hst : StructAt E.P t places) (ht : Ty E.P t true size bytes z) (hcs : z.cells.toList.map .lit = cs) : PO E S σ n0 ⟨d, .build t #[], ty, pos, af, g⟩ (.agg cs) :=
  po_build (rs := []) hst ht rfl (by simp) (by simpa [fillA] using hcs)
theorem wc_row0 {α : Type} [Enc α] {agg : Bool} {size bytes : Nat} {z : Value} (ht : Un E.P t (.slice e)) (he : Ty E.P e agg size bytes z) (hs : size = Enc.e α) (hz : z.cells.size = size) (hz1 : ∀ v ∈ z.cells.toList, v.oneCell' = true) (hd : okd E d = true)
    (k : ∀ i σ', Grow σ σ' → New σ i → Has σ' i (Row ([] : List α)) → WL E ops l Q (S.put d (.sl i 0 0)) σ') : WL E ops (⟨d, .buildSlice t 0 #[], ty, pos, af, none⟩ :: l) Q S σ := by
  subst hs
  exact wc_buildSlice (cs := []) ht.eq he hz hz1 (by simp) rfl (by simp) (by simp [fillA]) hd k
theorem wc_row1 {α : Type} [Enc α] {agg : Bool} {size bytes : Nat} {z : Value} {v : AV} (u : α) (hx : S.ev x = some v) (hu : v.cells = Enc.enc u) (h1 : ∀ c ∈ Enc.enc u, c.one = true) (ht : Un E.P t (.slice e)) (he : Ty E.P e agg size bytes z) (hs : size = Enc.e α) (hz : z.cells.size = size) (hz1 : ∀ v ∈ z.cells.toList, v.oneCell' = true) (hlt : size ≤ 16777216) (hd : okd E d = true)
    (k : ∀ i σ', Grow σ σ' → New σ i → Has σ' i (Row [u]) → WL E ops l Q (S.put d (.sl i 0 1)) σ') : WL E ops (⟨d, .buildSlice t 1 #[(0, x)], ty, pos, af, none⟩ :: l) Q S σ := by
  subst hs
  refine wc_buildSlice (rs := [(0, v)]) (cs := rowCells [u]) ht.eq he hz hz1 (by omega) (by simp [evParts, hx]) ?_ ?_ hd k
  · intro r hr
    simp only [List.mem_cons, List.not_mem_nil, or_false] at hr
    subst hr
    exact ⟨by rw [hu, Enc.len], by simp, by rw [hu]; exact h1⟩
  · simp only [fillA, hu, rowCells_one]
    unfold splice
    simp [Enc.len]
theorem wc_oneMv {bytes : Nat} {z : Value} {a b : Int} (hx : S.ev x = some (.agg [I a, I b])) (ht : Un E.P t (.slice e)) (he : Ty E.P e true 2 bytes z) (hz : z.cells.size = 2) (hz1 : ∀ v ∈ z.cells.toList, v.oneCell' = true) (hd : okd E d = true)
    (k : ∀ i σ', Grow σ σ' → New σ i → Has σ' i (Row [((a, b) : Mv)]) → WL E ops l Q (S.put d (.sl i 0 1)) σ') : WL E ops (⟨d, .buildSlice t 1 #[(0, x)], ty, pos, af, none⟩ :: l) Q S σ :=
  wc_row1 ((a, b) : Mv) hx rfl (fun c hc => by simp [Enc.enc] at hc; rcases hc with rfl | rfl <;> rfl) ht he rfl hz hz1 (by decide) hd k
theorem wc_oneNat {bytes : Nat} {z : Value} {a : Nat} (hx : S.ev x = some (I (a : Int))) (ht : Un E.P t (.slice e)) (he : Ty E.P e false 1 bytes z) (hz : z.cells.size = 1) (hz1 : ∀ v ∈ z.cells.toList, v.oneCell' = true) (hd : okd E d = true)
    (k : ∀ i σ', Grow σ σ' → New σ i → Has σ' i (Row [a]) → WL E ops l Q (S.put d (.sl i 0 1)) σ') : WL E ops (⟨d, .buildSlice t 1 #[(0, x)], ty, pos, af, none⟩ :: l) Q S σ :=
  wc_row1 a hx rfl (fun c hc => by simp [Enc.enc] at hc; subst hc; rfl) ht he rfl hz hz1 (by decide) hd k
theorem wc_oneInt {bytes : Nat} {z : Value} {a : Int} (hx : S.ev x = some (I a)) (ht : Un E.P t (.slice e)) (he : Ty E.P e false 1 bytes z) (hz : z.cells.size = 1) (hz1 : ∀ v ∈ z.cells.toList, v.oneCell' = true) (hd : okd E d = true)
    (k : ∀ i σ', Grow σ σ' → New σ i → Has σ' i (Row [a]) → WL E ops l Q (S.put d (.sl i 0 1)) σ') : WL E ops (⟨d, .buildSlice t 1 #[(0, x)], ty, pos, af, none⟩ :: l) Q S σ :=
  wc_row1 a hx rfl (fun c hc => by simp [Enc.enc] at hc; subst hc; rfl) ht he rfl hz hz1 (by decide) hd k
theorem wc_oneAV {bytes : Nat} {z : Value} {v : AV} (hx : S.ev x = some v) [h1 : One v] (ht : Un E.P t (.slice e)) (he : Ty E.P e false 1 bytes z) (hz : z.cells.size = 1) (hz1 : ∀ v ∈ z.cells.toList, v.oneCell' = true) (hd : okd E d = true)
    (k : ∀ i σ', Grow σ σ' → New σ i → Has σ' i (Row [v]) → WL E ops l Q (S.put d (.sl i 0 1)) σ') : WL E ops (⟨d, .buildSlice t 1 #[(0, x)], ty, pos, af, none⟩ :: l) Q S σ :=
  wc_row1 v hx (AV.cells_one h1.eq) (fun c hc => by simp [Enc.enc] at hc; subst hc; exact h1.eq) ht he rfl hz hz1 (by decide) hd k
theorem wc_append1 {α : Type} [Enc α] {s : AV} {xs : List α} {u : α} {j : Nat} {agg : Bool} {bytes : Nat} {z : Value} (hx : S.ev x = some s) (hy : S.ev y = some (.sl j 0 1)) (ht : Un E.P t (.slice e)) (he : Ty E.P e agg (Enc.e α) bytes z) (hz : z.cells.size = Enc.e α) (hb0 : 0 < bytes) (hb : bytes ≤ 4096)
    (hs : OW σ₀ σ s xs) (hh : Has σ j (Row [u])) (h1 : ∀ c ∈ Enc.enc u, c.one = true) (hlen : xs.length < 4294967296) (hm : ∀ id, σ₀.length ≤ id → E.may id) (h0 : σ₀.length ≤ σ.length) (hd : okd E d = true)
    (k : ∀ s' σ', App σ₀ σ s s' σ' → Mk σ σ₀ σ σ' → OW σ₀ σ' s' (xs ++ [u]) → One s' → WL E ops l Q (S.put d s') σ') :
    WL E ops (⟨d, .call ⟨.builtin .append, #[x, y], #[t, t]⟩, ty, pos, af, none⟩ :: l) Q S σ :=
  wc_appendRow hx hy ht he hz hb0 hs (rw_of_has hh rfl (by decide)) (by simpa using h1) (by simp; omega) hb hm h0 hd (by simp) fun s' σ' h1 h2 h3 => k s' σ' h1 h1.turned h2 h3
end
theorem rows_push {α : Type} [Enc α] {σb σ' σ1 σ2 σ3 : Store} {u u' v : AV} {us : List AV} {g : List (List α)} {l : List α} {i : Nat} {o o' : Ob} (hne : Enc.e AV ≠ Enc.e α) (hor : ORs σb σ' us g) (how : OW σb σ' u us) (hlen : σb.length ≤ σ'.length) (hb : Has σb i o) (hv : OW σ' σ1 v l) (g1 : LeS σ' σ1)
    (happ : App σb σ1 u u' σ2) (hu : Upd σ2 i o' σ3) : ORs σb σ3 (us ++ [v]) (g ++ [l]) := by
  have := g1.grow
  have h1 : ORs σb σ1 us g := inI
  have h2 : OW σb σ1 u us := inI
  have h3 := happ.ors h1 (ors_ne_of_esz h2 h1 hne)
  have h4 := happ.ow hv (ow_ne_of_esz h2 hv hne)
  have hlt := hb.lt
  have h5 : ORs σb σ3 us g := inI
  have h6 : OW σ' σ3 v l := h4.keep fun j x hj _ ho => by rw [hu.eq, List.getElem?_set_ne (by omega)]; exact ho
  exact hor.snoc h5 hlen h6
noncomputable def optB {α : Type} (p : Prop) (x : α) : Option α := match prB p with
  | true => some x
  | false => none
theorem optB_yes {α : Type} {p : Prop} {x : α} (h : p) : optB p x = some x := by unfold optB; rw [prB_true h]
theorem optB_no {α : Type} {p : Prop} {x : α} (h : ¬ p) : optB p x = none := by unfold optB; rw [prB_false h]
def RetGO (σ : Store) (o : Option Gr) : AV → Store → Prop := fun r σ' => ∃ u us, r = .tup [.agg [u], Bo o.isSome] ∧ OW σ σ' u us ∧ ORs σ σ' us (o.getD []) ∧ Grow σ σ'
theorem ret_go_none {σ σ' : Store} {o : Option Gr} (h : o = none) (l : LeS σ σ') : RetGO σ o (.tup [.agg [nilS], Bo false]) σ' := by
  subst h; exact ⟨nilS, [], rfl, OW.nilS _ _, ORs.nil _ _, l.grow⟩
theorem ret_go {σ σ₁ σ₂ σ' : Store} {o : Option Gr} {g : Gr} {u : AV} {us : List AV} (h : o = some g) (h1 : OW σ₁ σ' u us) (k1 : LeS σ σ₁) (h2 : ORs σ₂ σ' us g) (k2 : LeS σ σ₂) (l : LeS σ σ') : RetGO σ o (.tup [.agg [u], Bo true]) σ' := by
  subst h; exact ⟨u, us, rfl, h1.down k1.len, h2.down k2.len, l.grow⟩
section
variable {E : Env} {ops : Array Oper} {l : List Oper} {Q : Exit → Slots → Store → Prop} {S : Slots} {σ : Store} {d : Option Tmp} {ty : TypeId} {pos : String} {af : Array Edge} {x y : Operand}
theorem wc_callGO {args : Array Operand} {ats : Array TypeId} {f : FuncId} {rs caps : List AV} {o : Option Gr} (hf : S.ev x = some (.fn f caps)) (hc : Callable E.P f) (hargs : evs S args.toList = some rs)
    (h : ACall E.P E.base f (rs ++ caps) σ (fun _ => False) (RetGO σ o)) (hd : okd E d = true) (k : ∀ u us σ', One u → OW σ σ' u us → ORs σ σ' us (o.getD []) → Grow σ σ' → WL E ops l Q (S.put d (.tup [.agg [u], Bo o.isSome])) σ') :
    WL E ops (⟨d, .call ⟨.value x, args, ats⟩, ty, pos, af, none⟩ :: l) Q S σ :=
  wc_call hf hc hargs h hd fun r' σ' h => by obtain ⟨u, us, e, h1, h2, hg⟩ := h; subst e; exact k u us σ' h1.one h1 h2 hg
end
theorem one_mv (a b : Int) : ∀ c ∈ Enc.enc ((a, b) : Mv), c.one = true := fun c hc => by simp [Enc.enc] at hc; rcases hc with rfl | rfl <;> rfl
theorem one_nat (a : Nat) : ∀ c ∈ Enc.enc a, c.one = true := fun c hc => by simp [Enc.enc] at hc; subst hc; rfl
theorem one_int (a : Int) : ∀ c ∈ Enc.enc a, c.one = true := fun c hc => by simp [Enc.enc] at hc; subst hc; rfl
theorem one_av {a : AV} (h : One a) : ∀ c ∈ Enc.enc a, c.one = true := fun c hc => by simp [Enc.enc] at hc; subst hc; exact h.eq
end Go.Proofs.YthbodgnoadlbcaaGreatDoor.Asl
