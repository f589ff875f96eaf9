/- The program logic's rules for memory: loads, stores, new variables and rows, addresses. -/
import Derived.Test.YtemhpkfijoodkaaA2
namespace Go.Proofs.Ytemhpkfijoodkaa.Asl
open Go.RowKit
set_option linter.unusedVariables false
set_option linter.unusedSimpArgs false

def aggB : TypeDesc → Bool
  | .struct _ | .array _ _ => true
  | _ => false
/-- What is known of a type. -/
class Ty (P : Program) (t : TypeId) (agg : outParam Bool) (size bytes : outParam Nat) (z : outParam Value) : Prop where
  info : (P.info? t).map (fun i => (i.zero, i.size, i.bytes)) = some (some z, size, bytes)
  und : (P.underlying t).map aggB = some agg

/-- What a type stands on. -/
class Un (P : Program) (t : TypeId) (d : outParam TypeDesc) : Prop where
  eq : P.underlying t = some d

section
variable {P : Program} {t : TypeId} {agg : Bool} {size bytes : Nat} {z : Value} {w : World}
theorem Ty.typeInfo (h : Ty P t agg size bytes z) : ∃ i, (typeInfo t).run P w = .ok i w ∧ i.zero = some z ∧ i.size = size ∧ i.bytes = bytes := by
  have := h.info
  cases hi : P.info? t with
  | none => rw [hi] at this; cases this
  | some i =>
    rw [hi] at this
    simp at this
    exact ⟨i, by simp [Go.typeInfo, hi], this.1, this.2.1, this.2.2⟩
theorem Ty.sizeOf (h : Ty P t agg size bytes z) : (sizeOf t).run P w = .ok size w := by
  obtain ⟨i, h1, _, h3, _⟩ := h.typeInfo (w := w)
  simp [Go.sizeOf, h1, h3]
theorem Ty.zeroValue (h : Ty P t agg size bytes z) : (zeroValue t).run P w = .ok z w := by
  obtain ⟨i, h1, h2, _, _⟩ := h.typeInfo (w := w)
  simp [Go.zeroValue, h1, h2]
theorem Ty.isAgg (h : Ty P t agg size bytes z) : (isAgg t).run P w = .ok agg w := by
  have := h.und
  cases hu : P.underlying t with
  | none => rw [hu] at this; cases this
  | some d =>
    rw [hu] at this
    simp at this
    subst this
    simp only [Go.isAgg, underlying, Sem.run_bind, run_program, Result.andThen_ok, hu, Sem.run_pure]
    cases d <;> rfl
end

theorem addr_add (b o n : Nat) : (⟨b, o, none⟩ : Addr).add n = ⟨b, o + n, none⟩ := by
  unfold Addr.add
  by_cases h : n = 0 <;> simp [h]

theorem run_load_cell {P : Program} {w : World} {a : Addr} {u : Value} (h : w.cell? a = some u) : (load a : Sem Value).run P w = .ok u w := by
  rw [run_load, h]

theorem run_loadCellsFrom {P : Program} {w : World} {b o : Nat} : ∀ (n i : Nat) (acc : Array Value) (us : List Value), us.length = n → (∀ j u, us[j]? = some u → w.cell? ⟨b, o + (i + j), none⟩ = some u) →
    (loadCellsFrom ⟨b, o, none⟩ i n acc).run P w = .ok (acc ++ us.toArray) w
  | 0, i, acc, us, hl, h => by
    obtain rfl : us = [] := by simpa using hl
    simp [loadCellsFrom]
  | n + 1, i, acc, us, hl, h => by
    cases us with
    | nil => simp at hl
    | cons u us =>
      have h0 : w.cell? ⟨b, o + i, none⟩ = some u := h 0 u rfl
      unfold loadCellsFrom
      rw [Sem.run_bind, addr_add, run_load_cell h0, Result.andThen_ok, run_loadCellsFrom n (i + 1) _ us (by simpa using hl) (fun j x hx => by have := h (j + 1) x (by simpa using hx); rw [← this]; congr 2; omega)]
      simp

section
variable {E : Env} {ops : Array Oper} {l : List Oper} {Q : Exit → Slots → Store → Prop} {S : Slots} {σ : Store} {d : Option Tmp} {ty : TypeId} {pos : String} {af : Array Edge} {g : Option (Nat × Bool)} {n0 : Nat} {x y : Operand}

theorem po_load1 {t : TypeId} {size bytes : Nat} {z : Value} {id off : Nat} {o : Ob} {c : AV} (hx : S.ev x = some (.pt id off)) (ht : Ty E.P t false size bytes z) (ho : σ[id]? = some o) (hl : o.readable) (hc : o.cells[off]? = some c) (hn0 : id < n0) :
    PO E S σ n0 ⟨d, .load t x, ty, pos, af, g⟩ c := by
  intro a w ρ W0 hw hag hn
  have h1 := hw.ev hx
  generalize hv : a.eval x = v at h1
  cases h1 with
  | @pt _ _ p hp =>
    obtain ⟨_, u, hu, hr⟩ := hw.sim.cell ho hp hl hc
    refine ⟨u, hr, fun w' hw' => ?_⟩
    have hlt := hn _ _ hp hn0
    have hu' : w'.cell? ⟨p.blk, p.off + off, none⟩ = some u := by rw [hw'.cell hlt, ← hag.cell hlt]; exact hu
    simp only [execOp, hv, Instr.loadAt, Instr.sureAddr, loadVar, Sem.run_bind, Sem.run_pure, Result.andThen_ok, ht.isAgg, run_load_cell hu', if_neg, Bool.false_eq_true, if_false]

/-- Cells that lie one behind another. -/
def cut (o : Ob) (off n : Nat) : List AV := (o.cells.drop off).take n

theorem Sim.cut {base : Nat} {ρ : Pl} {σ : Store} {w : World} (h : Sim base ρ σ w) {id : Nat} {o : Ob} {p : Place} (ho : σ[id]? = some o) (hp : ρ id = some p) (hl : o.readable) {off n : Nat} {cs : List AV} (hc : cut o off n = cs) :
    ∃ us, Rs ρ cs us ∧ us.length = cs.length ∧ (∀ c ∈ cs, c.one = true) ∧ ∀ (j : Nat) (u : Value), us[j]? = some u → w.cell? ⟨p.blk, p.off + off + j, none⟩ = some u := by
  have hget : ∀ (j : Nat) c, cs[j]? = some c → o.cells[off + j]? = some c := by
    intro j c hj
    subst hc
    unfold Asl.cut at hj
    rw [List.getElem?_take] at hj
    split at hj
    · rwa [List.getElem?_drop] at hj
    · cases hj
  clear hc
  induction cs generalizing off with
  | nil => exact ⟨[], .nil, rfl, by simp, by simp⟩
  | cons c cs ih =>
    obtain ⟨h1, u, h2, h3⟩ := h.cell ho hp hl (hget 0 c rfl)
    obtain ⟨us, h4, h5, h6, h7⟩ := ih (off := off + 1) (fun j x hx => by have := hget (j + 1) x (by simpa using hx); rw [show off + (j + 1) = off + 1 + j by omega] at this; exact this)
    refine ⟨u :: us, .cons h3 h4, by simp [h5], by simpa using ⟨h1, h6⟩, ?_⟩
    intro j v hj
    cases j with
    | zero => simp at hj; subst hj; rw [← h2]; rfl
    | succ j => have := h7 j v (by simpa using hj); rw [← this]; congr 2; omega

theorem po_loadn {t : TypeId} {size bytes : Nat} {z : Value} {id off : Nat} {o : Ob} {cs : List AV} (hx : S.ev x = some (.pt id off)) (ht : Ty E.P t true size bytes z) (ho : σ[id]? = some o) (hl : o.readable) (hc : cut o off size = cs) (hn : cs.length = size) (hn0 : id < n0) :
    PO E S σ n0 ⟨d, .load t x, ty, pos, af, g⟩ (.agg cs) := by
  intro a w ρ W0 hw hag hN
  have h1 := hw.ev hx
  generalize hv : a.eval x = v at h1
  cases h1 with
  | @pt _ _ p hp =>
    obtain ⟨us, h2, h3, _, h4⟩ := hw.sim.cut ho hp hl hc
    refine ⟨.agg us.toArray, .agg h2, fun w' hw' => ?_⟩
    have hlt := hN _ _ hp hn0
    simp only [execOp, hv, Instr.loadAt, Instr.sureAddr, loadVar, Sem.run_bind, Sem.run_pure, Result.andThen_ok, ht.isAgg, if_true, ht.sizeOf, loadCells]
    rw [run_loadCellsFrom size 0 #[] us (by omega) (fun j u hu => by rw [hw'.cell hlt, ← hag.cell hlt]; have := h4 j u hu; rw [← this]; congr 2; omega)]
    simp

theorem AV.cells_Rs {ρ : Pl} {r : AV} {v : Value} (h : R ρ r v) : Rs ρ r.cells v.cells.toList := by
  cases h with
  | agg h => simpa [AV.cells, Value.cells] using h
  | lit v =>
    cases v <;> first | exact .cons (.lit _) .nil | skip
    rename_i cs
    simp only [AV.cells, Value.cells]
    refine Rs.of_get (by simp) fun i x hx => ?_
    rw [List.getElem?_map] at hx
    cases hc : cs.toList[i]? with
    | none => rw [hc] at hx; cases hx
    | some u => rw [hc] at hx; simp at hx; subst hx; exact ⟨u, rfl, .lit u⟩
  | sl h1 h2 h3 => exact .cons (.sl h1 h2 h3) .nil
  | pt h1 => exact .cons (.pt h1) .nil
  | fn h1 => exact .cons (.fn h1) .nil
  | mp h1 => exact .cons (.mp h1) .nil
  | tup h1 => exact .cons (.tup h1) .nil

theorem R.one {ρ : Pl} {r : AV} {v : Value} (h : R ρ r v) (h1 : r.one = true) : v.oneCell' = true := by
  cases h <;> first | rfl | (simp [AV.one] at h1; done) | skip
  cases v <;> first | rfl | (simp [AV.one] at h1; done)
theorem Rs.one {ρ : Pl} {xs : List AV} {vs : List Value} (h : Rs ρ xs vs) (h1 : ∀ c ∈ xs, c.one = true) : ∀ v ∈ vs, v.oneCell' = true := by
  induction xs generalizing vs with
  | nil => cases h; simp
  | cons x xs ih =>
    cases h with
    | cons k1 k2 =>
      intro v hv
      rcases List.mem_cons.1 hv with rfl | hv
      · exact k1.one (h1 x (by simp))
      · exact ih k2 (fun c hc => h1 c (by simp [hc])) v hv

/-- Cells written into a list of cells. -/
def splice (l : List AV) (off : Nat) (cs : List AV) : List AV := l.take off ++ cs ++ l.drop (off + cs.length)
theorem splice_length {l : List AV} {off : Nat} {cs : List AV} (h : off + cs.length ≤ l.length) : (splice l off cs).length = l.length := by simp [splice]; omega
theorem splice_get {l : List AV} {off : Nat} {cs : List AV} (h : off + cs.length ≤ l.length) (i : Nat) :
    (splice l off cs)[i]? = if i < off then l[i]? else if i < off + cs.length then cs[i - off]? else l[i]? := by
  unfold splice
  rw [List.append_assoc, List.getElem?_append, List.getElem?_append]
  simp only [List.length_take, Nat.min_eq_left (show off ≤ l.length by omega)]
  by_cases h1 : i < off
  · simp [h1, List.getElem?_take]
  · rw [if_neg h1, if_neg h1]
    by_cases h2 : i < off + cs.length
    · rw [if_pos (by omega), if_pos h2]
    · rw [if_neg (by omega), if_neg h2, List.getElem?_drop]
      congr 1; omega
theorem splice_one (l : List AV) (off : Nat) (c : AV) (h : off < l.length) : splice l off [c] = l.set off c := by
  apply List.ext_getElem?
  intro i
  rw [splice_get (by simp; omega), List.getElem?_set]
  simp
  by_cases h1 : i < off
  · rw [if_pos h1, if_neg (by omega)]
  · rw [if_neg h1]
    by_cases h2 : i = off
    · subst h2; simp [h]
    · rw [if_neg (by omega), if_neg (by omega)]

theorem wl_store {t : TypeId} {agg : Bool} {size bytes : Nat} {z : Value} {id off : Nat} {o : Ob} {r : AV} {cs : List AV} (hx : S.ev x = some (.pt id off)) (hy : S.ev y = some r) (ht : Ty E.P t agg size bytes z) (ho : σ[id]? = some o) (hk : o.kind = .own)
    (hcs : r.cells = cs) (hn : cs.length = size) (h1 : ∀ c ∈ cs, c.one = true) (hoff : off + size ≤ o.cells.length) (hm : E.may id)
    (k : WL E ops l Q S (σ.set id { o with cells := splice o.cells off cs })) : WL E ops (⟨none, .store t x y, ty, pos, af, none⟩ :: l) Q S σ := by
  intro a w ρ hw
  have e1 := hw.ev hx
  have e2 := hw.ev hy
  generalize hv : a.eval x = v at e1
  generalize hu : a.eval y = u at e2
  cases e1 with
  | pt hp =>
    have hob := hw.sim.obs id o _ ho hp
    unfold ObRel at hob; rw [hk] at hob
    obtain ⟨q1, q2, q3, q4, arr, ety, q5, q6, q7, q8⟩ := hob
    have hrs := AV.cells_Rs e2
    rw [hcs] at hrs
    have hlen := hrs.length
    obtain ⟨w', r1, r2, r3, r4, r5, r6, arr', r7, r8, r9, r10⟩ := storeCells_own (P := E.P) u.cells.toList 0 w _ off arr ety q5 (by rw [← hlen, hn]; omega) (hrs.one h1)
    simp only [Nat.add_zero] at r9 r10
    have hrun : (execOp a.eval ⟨none, .store t x y, ty, pos, af, none⟩).run E.P w = .ok .skip w' := by
      simp only [execOp, hv, hu, Instr.storeAt, Instr.sureAddr, storeVar, Sem.run_bind, Sem.run_pure, Result.andThen_ok, ht.sizeOf, q4, Nat.zero_add]
      rw [if_neg (by have : u.cells.size = size := by rw [← Array.length_toList, ← hlen, hn]
                     simp [this])]
      simp only [Sem.run_pure, Result.andThen_ok, Sem.run_bind, r1]
    simp only [wpOpsL, Region.wanted, if_true, Oper.wp, hrun, Oper.upon, Act.put]
    refine k a w' ρ (hw.write ho hp (.inl hk) (.inl hk) hm r2 r3 r4 r5 r6 ?_)
    unfold ObRel
    simp only [hk]
    refine ⟨q1, q2, q3, q4, arr', ety, r7, by rw [r8]; exact q6, by rw [splice_length (by omega), r8]; exact q7, fun i c hc => ?_⟩
    rw [splice_get (by omega)] at hc
    by_cases g1 : i < off
    · rw [if_pos g1] at hc
      obtain ⟨s1, u', s2, s3⟩ := q8 i c hc
      exact ⟨s1, u', by rw [r9 i (.inl g1)]; exact s2, s3⟩
    · rw [if_neg g1] at hc
      by_cases g2 : i < off + cs.length
      · rw [if_pos g2] at hc
        obtain ⟨u', s2, s3⟩ := hrs.get (i - off) c hc
        refine ⟨h1 c (List.mem_of_getElem? hc), u', ?_, s3⟩
        have := r10 (i - off) (by rw [← hlen]; omega)
        rw [show off + (i - off) = i by omega] at this
        rw [this]; exact s2
      · rw [if_neg g2] at hc
        obtain ⟨s1, u', s2, s3⟩ := q8 i c hc
        exact ⟨s1, u', by rw [r9 i (.inr (by rw [← hlen]; omega))]; exact s2, s3⟩
end
end Go.Proofs.Ytemhpkfijoodkaa.Asl
