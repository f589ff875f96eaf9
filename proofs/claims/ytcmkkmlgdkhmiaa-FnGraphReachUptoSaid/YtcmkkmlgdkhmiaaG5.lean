/- Rows and graphs marked, and what was marked held. -/
import Derived.Test.YtcmkkmlgdkhmiaaG2
import Derived.Test.YtcmkkmlgdkhmiaaBB
namespace Go.Proofs.Ytcmkkmlgdkhmiaa.Asl
open Go.RowKit Go.Proofs.YtcmkkmlgdkhmiaaW.PrintLast
set_option linter.unusedVariables false
set_option linter.unusedSimpArgs false
attribute [local irreducible] WP WL andThen inBlock noGoto atEnd ACall DA DL PO Hold
set_option maxHeartbeats 4000000

section
variable {α : Type} [Enc α]
instance instRWMk {σ σa σb σ' : Store} {s : AV} {l : List α} [m : Mk σ σa σb σ'] [a : LeS σa σ] [h : RW σa s l] : RW σ' s l := by
  have h2 := h.les a
  rcases h.rep with ⟨rfl, b, c, rfl⟩ | ⟨id, off, o, rfl, h1, _⟩
  · exact .nil _ _ _
  · exact h2.mono fun o _ ho => m.keep _ o (.inl (Has.lt ⟨h1⟩)) ho
instance instRRsMk {σ σa σb σ' : Store} {ss : List AV} {g : List (List α)} [m : Mk σ σa σb σ'] [a : LeS σa σ] [h : RRs σa ss g] : RRs σ' ss g :=
  ⟨h.len, fun k => instRWMk (h := h.row k)⟩
instance instOWMk {σ σa σb σc σ' : Store} {s : AV} {l : List α} [m : Mk σ σa σb σ'] [a : LeS σb σc] [h : OW σc σ s l] : OW σc σ' s l :=
  h.keep fun j o hj _ ho => m.keep j o (.inr (Nat.le_trans a.len hj)) ho
instance instORsMk {σ σa σb σc σ' : Store} {ss : List AV} {g : List (List α)} [m : Mk σ σa σb σ'] [a : LeS σb σc] [h : ORs σc σ ss g] : ORs σc σ' ss g :=
  h.keep fun j o hj _ ho => m.keep j o (.inr (Nat.le_trans a.len hj)) ho
/-- What marking a row leaves. -/
def RetMarkW (σ₀ σ : Store) (s : AV) (r : Int) (l : List α) : AV → Store → Prop := fun r' σ' => r' = I r ∧ OW σ₀ σ' s l ∧ ∀ (j : Nat) (o : Ob), (∀ n, s ≠ .sl j 0 n) → σ[j]? = some o → σ'[j]? = some o
/-- What marking rows leaves. -/
def RetMarkR (σ₀ σ : Store) (ss : List AV) (r : Int) (g : List (List α)) : AV → Store → Prop := fun r' σ' => r' = I r ∧ ORs σ₀ σ' ss g ∧ (∀ (j n : Nat), AV.sl j 0 n ∈ ss → ∃ l : List α, Has σ' j (Row l)) ∧ ∀ (j : Nat) (o : Ob), (∀ n, AV.sl j 0 n ∉ ss) → σ[j]? = some o → σ'[j]? = some o
theorem ORs.has {σ₀ σ : Store} {ss : List AV} {g : List (List α)} (h : ORs σ₀ σ ss g) {j n : Nat} (hj : AV.sl j 0 n ∈ ss) : σ₀.length ≤ j ∧ ∃ l : List α, Has σ j (Row l) := by
  obtain ⟨k, hk, e⟩ := List.getElem_of_mem hj
  have e' : ss.getD k nilS = .sl j 0 n := by simp [List.getD_eq_getElem?_getD, hk, e]
  rcases (h.row k).rep with ⟨_, h1⟩ | ⟨id, h1, h2, h3⟩
  · rw [e'] at h1; cases h1
  · rw [e'] at h1; cases h1; exact ⟨h2, _, h3⟩
/-- The slices stay, one row is turned. -/
theorem ORs.turn {σ₀ σ σ' : Store} {ss : List AV} {g g' : List (List α)} {k : Nat} (h : ORs σ₀ σ ss g) (hl : g'.length = g.length) (hk : k < ss.length) (hw : OW σ₀ σ' (ss.getD k nilS) (g'.getD k [])) (ho : ∀ j, j ≠ k → g'.getD j [] = g.getD j [])
    (hkeep : ∀ (j : Nat) (o : Ob), (∀ n, ss.getD k nilS ≠ .sl j 0 n) → σ[j]? = some o → σ'[j]? = some o) : ORs σ₀ σ' ss g' := by
  refine ⟨by rw [h.len, hl], fun q => ?_, h.apart⟩
  by_cases e : q = k
  · subst e; exact hw
  · rw [ho q e]
    refine (h.row q).keep fun j o hj ⟨n, hn⟩ hoj => hkeep j o (fun m hm => e ?_) hoj
    by_cases hq : q < ss.length
    · refine h.apart q k j n m ?_ ?_
      · rw [← hn]; simp [List.getD_eq_getElem?_getD, hq]
      · rw [← hm]; simp [List.getD_eq_getElem?_getD, hk]
    · rw [List.getD_eq_getElem?_getD, List.getElem?_eq_none (by omega)] at hn; cases hn
end

/-- Moves that count on. -/
def cntM (a : Int) : Nat → List Mv
  | 0 => []
  | n + 1 => cntM a n ++ [(a + 2 * n, a + 2 * n + 1)]
theorem cntM_len (a : Int) (n : Nat) : (cntM a n).length = n := by induction n <;> simp_all [cntM]
theorem cntM_get (a : Int) {n k : Nat} (h : k < n) : (cntM a n).getD k (0, 0) = (a + 2 * k, a + 2 * k + 1) := by
  induction n with
  | zero => omega
  | succ n ih =>
    simp only [cntM]
    rw [List.getD_eq_getElem?_getD]
    rcases Nat.lt_or_ge k n with h1 | h1
    · rw [List.getElem?_append_left (by rw [cntM_len]; exact h1), ← List.getD_eq_getElem?_getD]; exact ih h1
    · obtain rfl : k = n := by omega
      rw [List.getElem?_append_right (by rw [cntM_len]; omega), cntM_len]; simp
def mkG (a : Int) : Gr → Gr
  | [] => []
  | l :: g => cntM a l.length :: mkG (a + 2 * (l.length : Int)) g
def totalG {α : Type} (g : List (List α)) : Nat := (g.map List.length).sum
theorem mkG_len : ∀ (g : Gr) (a : Int), (mkG a g).length = g.length
  | [], a => rfl
  | l :: g, a => by simp [mkG, mkG_len g]
theorem totalG_nil {α : Type} : totalG ([] : List (List α)) = 0 := rfl
theorem totalG_take {α : Type} {g : List (List α)} {k : Nat} (h : k < g.length) : totalG (g.take (k + 1)) = totalG (g.take k) + (g.getD k []).length := by
  unfold totalG
  rw [List.take_succ_eq_append_getElem h, List.map_append, List.sum_append, getD_lt h]
  simp only [List.map_cons, List.map_nil, List.sum_cons, List.sum_nil, Nat.add_zero]
theorem totalG_le {α : Type} (g : List (List α)) (k : Nat) : totalG (g.take k) ≤ totalG g := by
  unfold totalG
  have := congrArg (fun l => (l.map List.length).sum) (List.take_append_drop k g)
  simp only [List.map_append, List.sum_append] at this
  omega
theorem totalG_bound {α : Type} {g : List (List α)} {b : Nat} (h : ∀ l ∈ g, l.length ≤ b) : totalG g ≤ g.length * b := by
  induction g with
  | nil => simp [totalG]
  | cons l g ih =>
    have h1 := h l (by simp)
    have h2 := ih fun x hx => h x (by simp [hx])
    unfold totalG at *
    simp only [List.map_cons, List.sum_cons, List.length_cons, Nat.add_mul]; omega
theorem mkG_get : ∀ (g : Gr) (a : Int) (k : Nat), k < g.length → (mkG a g).getD k [] = cntM (a + 2 * (totalG (g.take k) : Int)) (g.getD k []).length
  | [], a, k, h => by simp at h
  | l :: g, a, 0, h => by simp [mkG, totalG]
  | l :: g, a, k + 1, h => by
    have := mkG_get g (a + 2 * (l.length : Int)) k (by simpa using h)
    simp only [mkG, List.getD_cons_succ, List.take_succ_cons]
    rw [this]
    congr 1
    simp only [totalG, List.map_cons, List.sum_cons]
    push_cast; omega

section
variable {base : Nat}
end
section
variable {α : Type} [Enc α] {E : Env} {ops : Array Oper} {l : List Oper} {Q : Exit → Slots → Store → Prop} {S : Slots} {σ : Store} {d : Option Tmp} {ty : TypeId} {pos : String} {af : Array Edge} {x y : Operand}
/-- A call that marks rows that lie between two stores. -/
theorem wc_callMkR {args : Array Operand} {ats : Array TypeId} {f : FuncId} {rs caps : List AV} {ss : List AV} {r : Int} {g g' : List (List α)} (σa σb : Store) (hf : S.ev x = some (.fn f caps)) (hc : Callable E.P f) (hargs : evs S args.toList = some rs)
    (hg : ORs σa σ ss g') (hb : ORs σa σb ss g') (h : ACall E.P E.base f (rs ++ caps) σ (fun j => ∃ n, AV.sl j 0 n ∈ ss) (RetMarkR σa σ ss r g)) (hm : ∀ i, σa.length ≤ i → E.may i) (hd : okd E d = true)
    (k : ∀ σ', Mk σ σa σb σ' → ORs σa σ' ss g → WL E ops l Q (S.put d (I r)) σ') :
    WL E ops (⟨d, .call ⟨.value x, args, ats⟩, ty, pos, af, none⟩ :: l) Q S σ :=
  wl_call hf hc hargs h (fun i ⟨n, hi⟩ => by
    obtain ⟨h1, l', h2⟩ := hg.has hi
    exact ⟨hm i h1, _, h2.get, .inl rfl⟩) hd fun r' σ' hK => by
    obtain ⟨e, h1, _, h3⟩ := hK
    subst e
    exact k σ' ⟨fun j o hj => h3 j o (fun n hn => by
      have h4 := (hg.has hn).1
      have h5 := hb.lt hn
      omega)⟩ h1
end
end Go.Proofs.Ytcmkkmlgdkhmiaa.Asl
