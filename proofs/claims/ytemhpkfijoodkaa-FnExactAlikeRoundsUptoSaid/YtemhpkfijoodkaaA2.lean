/- The program logic's steps on memory: a new object, a cell that is written, an object that grows. -/
import Derived.Test.YtemhpkfijoodkaaA1
import Derived.Laws.Append
namespace Go.Proofs.Ytemhpkfijoodkaa.Asl
open Go.RowKit
set_option linter.unusedVariables false
set_option linter.unusedSimpArgs false

/-- A kind that is read by cells. -/
def Ob.readable (o : Ob) : Prop := o.kind = .ro ∨ o.kind = .own

theorem alloc_size (w : World) (o : Obj) : (w.alloc o).heap.size = w.heap.size + 1 := by
  show (w.heap.push o).size = _
  simp
theorem alloc_at (w : World) (o : Obj) : (w.alloc o).heap[w.heap.size]? = some o := by
  show (w.heap.push o)[w.heap.size]? = _
  simp

theorem Sim.cell {base : Nat} {ρ : Pl} {σ : Store} {w : World} (h : Sim base ρ σ w) {id : Nat} {o : Ob} {p : Place} (ho : σ[id]? = some o) (hp : ρ id = some p) (hl : o.readable) {i : Nat} {c : AV} (hc : o.cells[i]? = some c) :
    c.one = true ∧ ∃ u, w.cell? ⟨p.blk, p.off + i, none⟩ = some u ∧ R ρ c u := by
  have := h.obs id o p ho hp
  unfold ObRel at this
  rcases hl with hk | hk
  · rw [hk] at this; exact this.2.2.2 i c hc
  · rw [hk] at this
    obtain ⟨_, _, _, h0, cs, ty, hb, _, _, h5⟩ := this
    obtain ⟨h6, u, h7, h8⟩ := h5 i c hc
    refine ⟨h6, u, ?_, h8⟩
    simp [World.cell?, hb, h0, h7]

theorem Sim.drew {base : Nat} {ρ : Pl} {σ : Store} {w : World} (h : Sim base ρ σ w) : Sim base ρ σ w.drew := ⟨h.dom, h.obs, h.inj, h.size, h.le⟩
theorem Fr.drew {N : Nat} {B : Nat → Prop} {w w' : World} (h : Fr N B w w') : Fr N B w w'.drew := ⟨h.os, h.tape, h.output, h.size, h.block⟩
theorem Ctx.drew {E : Env} {S : Slots} {σ : Store} {a : Act} {w : World} {ρ : Pl} (h : Ctx E S σ a w ρ) : Ctx E S σ a w.drew ρ :=
  { h with sim := h.sim.drew, fr := h.fr.drew, N_le := h.N_le }

/-- An object's relation looks at its own block alone. -/
theorem ObRel.of_block {base : Nat} {ρ ρ' : Pl} {o : Ob} {p : Place} {w w' : World} (h : ObRel base ρ o p w) (hl : Le ρ ρ') (hb : w'.heap[p.blk]? = w.heap[p.blk]?) : ObRel base ρ' o p w' := by
  unfold ObRel at *
  cases hk : o.kind <;> simp only [hk] at h ⊢
  · obtain ⟨h1, h2, h3, h4⟩ := h
    refine ⟨h1, h2, h3, fun i c hc => ?_⟩
    obtain ⟨h5, u, h6, h7⟩ := h4 i c hc
    exact ⟨h5, u, by rw [← h6]; exact World.cell?_of_block (w := w) (w' := w') hb, h7.mono hl⟩
  · obtain ⟨h1, h2, h3, h4, cs, ty, h5, h6, h7, h8⟩ := h
    refine ⟨h1, h2, h3, h4, cs, ty, by rw [hb]; exact h5, h6, h7, fun i c hc => ?_⟩
    obtain ⟨h9, u, h10, h11⟩ := h8 i c hc
    exact ⟨h9, u, h10, h11.mono hl⟩
  · obtain ⟨h1, h2, es, clock, h3, h4, h5⟩ := h
    refine ⟨h1, h2, es, clock, by rw [hb]; exact h3, h4, fun i k c hc => ?_⟩
    obtain ⟨e, h6, h7, h8⟩ := h5 i k c hc
    exact ⟨e, h6, h7, h8.mono hl⟩

theorem Ob.live_own {base : Nat} {ρ : Pl} {o : Ob} {p : Place} {w : World} (h : ObRel base ρ o p w) (hl : o.live) : p.own = true ∧ base ≤ p.blk := by
  unfold ObRel at h
  rcases hl with hk | hk <;> rw [hk] at h
  · exact ⟨h.1, h.2.2.1⟩
  · exact ⟨h.1, h.2.1⟩
theorem ObRel.ro_lt {base : Nat} {ρ : Pl} {o : Ob} {p : Place} {w : World} (h : ObRel base ρ o p w) (hk : o.kind = .ro) : p.blk < base := by
  unfold ObRel at h; rw [hk] at h; exact h.2.2.1
theorem Kind.cases (o : Ob) : o.kind = .dead ∨ o.kind = .ro ∨ o.live := by
  unfold Ob.live
  cases h : o.kind <;> simp

/-- A place more. -/
def more (ρ : Pl) (id : Nat) (p : Place) : Pl := fun i => if i = id then some p else ρ i
theorem more_at (ρ : Pl) (id : Nat) (p : Place) : more ρ id p id = some p := by simp [more]
theorem more_le {base : Nat} {ρ : Pl} {σ : Store} {w : World} (h : Sim base ρ σ w) (p : Place) : Le ρ (more ρ σ.length p) := by
  intro i q hq
  have := h.dom i q hq
  simp [more]; rw [if_neg (by omega)]; exact hq

/-- A new object in a new block. -/
theorem Sim.new {base : Nat} {ρ : Pl} {σ : Store} {w : World} (h : Sim base ρ σ w) (o : Ob) (ob : Obj) (p : Place) (hp : p.blk = w.heap.size)
    (ho : ObRel base (more ρ σ.length p) o p (w.alloc ob)) : Sim base (more ρ σ.length p) (σ ++ [o]) (w.alloc ob) := by
  have hle := more_le h p
  have hold : ∀ i q, more ρ σ.length p i = some q → i ≠ σ.length → ρ i = some q := by
    intro i q hq hi
    simpa [more, hi] using hq
  have hsz : (w.alloc ob).heap.size = w.heap.size + 1 := alloc_size _ _
  refine ⟨?_, ?_, ?_, ?_, by rw [hsz]; have := h.le; omega⟩
  · intro i q hq
    by_cases e : i = σ.length
    · simp; omega
    · have := h.dom i q (hold i q hq e); simp; omega
  · intro i o' q ho' hq
    by_cases e : i = σ.length
    · subst e
      rw [more_at] at hq; cases hq
      simp at ho'; subst ho'; exact ho
    · have hq' := hold i q hq e
      have hi := h.dom i q hq'
      rw [List.getElem?_append_left hi] at ho'
      exact (h.obs i o' q ho' hq').of_block hle (Below.heap_alloc _ _ _ (h.size i q hq'))
  · intro i j o1 o2 p1 p2 h1 h2 l1 l2 q1 q2 e
    by_cases ei : i = σ.length <;> by_cases ej : j = σ.length
    · omega
    · have := h.size j p2 (hold j p2 q2 ej)
      rw [ei, more_at] at q1; cases q1; omega
    · have := h.size i p1 (hold i p1 q1 ei)
      rw [ej, more_at] at q2; cases q2; omega
    · have k1 := hold i p1 q1 ei
      have k2 := hold j p2 q2 ej
      rw [List.getElem?_append_left (h.dom i p1 k1)] at h1
      rw [List.getElem?_append_left (h.dom j p2 k2)] at h2
      exact h.inj i j o1 o2 p1 p2 h1 h2 l1 l2 k1 k2 e
  · intro i q hq
    rw [hsz]
    by_cases e : i = σ.length
    · rw [e, more_at] at hq; cases hq; omega
    · have := h.size i q (hold i q hq e); omega

theorem Fr.new {N : Nat} {B : Nat → Prop} {w w' : World} (h : Fr N B w w') (hN : N ≤ w'.heap.size) (ob : Obj) : Fr N B w (w'.alloc ob) :=
  h.trans ⟨rfl, rfl, rfl, by rw [alloc_size]; omega, fun k hk _ => Below.heap_alloc _ _ _ (by omega)⟩

theorem Ctx.new {E : Env} {S : Slots} {σ : Store} {a : Act} {w : World} {ρ : Pl} (h : Ctx E S σ a w ρ) (o : Ob) (ob : Obj) (p : Place) (hp : p.blk = w.heap.size) (hown : p.own = true)
    (ho : ObRel E.base (more ρ σ.length p) o p (w.alloc ob)) : Ctx E S (σ ++ [o]) a (w.alloc ob) (more ρ σ.length p) := by
  have hle := more_le h.sim p
  have hold : ∀ i q, more ρ σ.length p i = some q → i ≠ σ.length → ρ i = some q := by
    intro i q hq hi
    simpa [more, hi] using hq
  refine { defers := h.defers, size := h.size, slots := ?_, sim := h.sim.new o ob p hp ho, fr := h.fr.new h.N_le ob, le := h.le.trans hle, old := ?_, may := ?_, fresh := ?_, n₀_le := ?_, N_le := ?_, later := h.later }
  · intro t v ht
    obtain ⟨u, h1, h2⟩ := h.slots t v ht
    exact ⟨u, h1, h2.mono hle⟩
  · intro i q hq hi
    exact h.old i q (hold i q hq (by have := h.n₀_le; omega)) hi
  · intro i q hq h1 h2
    by_cases e : i = σ.length
    · rw [e, more_at] at hq; cases hq; exact .inr (by rw [hp]; exact h.N_le)
    · exact h.may i q (hold i q hq e) h1 h2
  · intro i q hq h1
    by_cases e : i = σ.length
    · rw [e, more_at] at hq; cases hq; exact ⟨hown, .inr (by rw [hp]; exact h.N_le)⟩
    · exact h.fresh i q (hold i q hq e) h1
  · have := h.n₀_le; simp; omega
  · have := h.N_le; rw [alloc_size]; omega

/-- Cells that stand for abstract ones, and more behind them. -/
def CellsR (ρ : Pl) (cs : List AV) (arr : Array Value) : Prop := cs.length ≤ arr.size ∧ ∀ (i : Nat) (c : AV), cs[i]? = some c → c.one = true ∧ ∃ u : Value, arr[i]? = some u ∧ R ρ c u
theorem CellsR.mono {ρ ρ' : Pl} {cs : List AV} {arr : Array Value} (h : CellsR ρ cs arr) (hl : Le ρ ρ') : CellsR ρ' cs arr :=
  ⟨h.1, fun i c hc => let ⟨h1, u, h2, h3⟩ := h.2 i c hc; ⟨h1, u, h2, h3.mono hl⟩⟩

theorem Ctx.newCells {E : Env} {S : Slots} {σ : Store} {a : Act} {w : World} {ρ : Pl} (h : Ctx E S σ a w ρ) (cs : List AV) (arr : Array Value) (esz : Nat) (ty : TypeId) (hr : CellsR ρ cs arr) :
    Ctx E S (σ ++ [⟨.own, esz, cs, []⟩]) a (w.alloc (.cells arr ty)) (more ρ σ.length ⟨w.heap.size, 0, arr.size, esz, true⟩) := by
  refine h.new _ _ _ rfl rfl ?_
  have := hr.mono (more_le h.sim ⟨w.heap.size, 0, arr.size, esz, true⟩)
  exact ⟨rfl, rfl, h.sim.le, rfl, arr, ty, alloc_at _ _, rfl, this.1, this.2⟩

/-- The objects but one stay as they were. -/
theorem Sim.write {base : Nat} {ρ : Pl} {σ : Store} {w w' : World} (h : Sim base ρ σ w) {id : Nat} {o o' : Ob} {p : Place} (ho : σ[id]? = some o) (hp : ρ id = some p) (hlo : o.live) (hlo' : o'.live)
    (hsz : w'.heap.size = w.heap.size) (hb : ∀ k, k ≠ p.blk → w'.heap[k]? = w.heap[k]?) (hr : ObRel base ρ o' p w') : Sim base ρ (σ.set id o') w' := by
  have hid : id < σ.length := h.dom id p hp
  have key : ∀ (i : Nat) (x : Ob), (σ.set id o')[i]? = some x → (i = id ∧ x = o') ∨ (i ≠ id ∧ σ[i]? = some x) := by
    intro i x hx
    rw [List.getElem?_set] at hx
    by_cases e : id = i
    · subst e; rw [if_pos rfl, if_pos hid] at hx; cases hx; exact .inl ⟨rfl, rfl⟩
    · rw [if_neg e] at hx; exact .inr ⟨fun z => e z.symm, hx⟩
  refine ⟨?_, ?_, ?_, ?_, by rw [hsz]; exact h.le⟩
  · intro i q hq; have := h.dom i q hq; simpa using this
  · intro i x q hx hq
    rcases key i x hx with ⟨rfl, rfl⟩ | ⟨hne, hx'⟩
    · rw [hp] at hq; cases hq; exact hr
    · have hx0 := h.obs i x q hx' hq
      rcases Kind.cases x with hk | hk | hk
      · unfold ObRel; rw [hk]; trivial
      · refine hx0.of_block (Le.refl _) (hb _ ?_)
        have := hx0.ro_lt hk
        have := (Ob.live_own (h.obs id o p ho hp) hlo).2
        omega
      · refine hx0.of_block (Le.refl _) (hb _ ?_)
        intro e
        exact hne (h.inj i id x o q p hx' ho hk hlo hq hp e)
  · intro i j x y q q' hx hy lx ly hq hq' e
    rcases key i x hx with ⟨rfl, rfl⟩ | ⟨hi, hx'⟩ <;> rcases key j y hy with ⟨rfl, rfl⟩ | ⟨hj, hy'⟩
    · rfl
    · exact h.inj _ _ o y q q' ho hy' hlo ly hq hq' e
    · exact h.inj _ _ x o q q' hx' ho lx hlo hq hq' e
    · exact h.inj _ _ x y q q' hx' hy' lx ly hq hq' e
  · intro i q hq; rw [hsz]; exact h.size i q hq

theorem Ctx.write {E : Env} {S : Slots} {σ : Store} {a : Act} {w w' : World} {ρ : Pl} (h : Ctx E S σ a w ρ) {id : Nat} {o o' : Ob} {p : Place} (ho : σ[id]? = some o) (hp : ρ id = some p) (hlo : o.live) (hlo' : o'.live) (hm : E.may id)
    (hos : w'.os = w.os) (htape : w'.tape = w.tape) (hout : w'.output = w.output)
    (hsz : w'.heap.size = w.heap.size) (hb : ∀ k, k ≠ p.blk → w'.heap[k]? = w.heap[k]?) (hr : ObRel E.base ρ o' p w') : Ctx E S (σ.set id o') a w' ρ := by
  refine { h with sim := h.sim.write ho hp hlo hlo' hsz hb hr, fr := h.fr.trans ⟨hos, htape, hout, by omega, fun k hk hB => hb k ?_⟩, n₀_le := by simpa using h.n₀_le, N_le := by rw [hsz]; exact h.N_le }
  intro e; subst e
  rcases h.may id p hp (Ob.live_own (h.sim.obs id o p ho hp) hlo).1 hm with k1 | k1
  · exact hB k1
  · omega

theorem run_store_one {P : Program} {w : World} {a : Addr} {v : Value} (hv : v.oneCell' = true) : (store a v : Sem Unit).run P w = match w.cell? a with
    | some _ => if w.frozen? a then .halt (.unsupported (.unsafePointer "a write to bytes that a string shares")) w else .ok () (w.setCell a v)
    | none => match w.farStore P a v false with
      | .ok (w, _) => .ok () w
      | .error h => .halt h w := by
  cases v <;> first | (simp [Value.oneCell'] at hv; done) | rfl

/-- A row of cells is written into. -/
theorem storeCells_own {P : Program} : ∀ (vs : List Value) (i : Nat) (w : World) (b off : Nat) (cs : Array Value) (ty : TypeId), w.heap[b]? = some (.cells cs ty (0, 0)) → off + i + vs.length ≤ cs.size →
    (∀ v ∈ vs, v.oneCell' = true) →
    ∃ w', (storeCells ⟨b, off, none⟩ vs i).run P w = .ok () w' ∧ w'.os = w.os ∧ w'.tape = w.tape ∧ w'.output = w.output ∧ w'.heap.size = w.heap.size ∧ (∀ k, k ≠ b → w'.heap[k]? = w.heap[k]?) ∧
      ∃ cs', w'.heap[b]? = some (.cells cs' ty (0, 0)) ∧ cs'.size = cs.size ∧ (∀ j, (j < off + i ∨ off + i + vs.length ≤ j) → cs'[j]? = cs[j]?) ∧ ∀ j, j < vs.length → cs'[off + i + j]? = vs[j]?
  | [], i, w, b, off, cs, ty, hb, hl, h1 => ⟨w, rfl, rfl, rfl, rfl, rfl, fun _ _ => rfl, cs, hb, rfl, fun _ _ => rfl, fun j hj => by simp at hj⟩
  | v :: vs, i, w, b, off, cs, ty, hb, hl, h1 => by
    have hv := h1 v (by simp)
    have hlt : off + i < cs.size := by simp at hl; omega
    have hcell : w.cell? ⟨b, off + i, none⟩ = some cs[off + i] := by simp [World.cell?, hb, hlt]
    have hfz : w.frozen? ⟨b, off + i, none⟩ = false := by
      simp only [World.frozen?, hb]
      simp
    have hadd : (⟨b, off, none⟩ : Addr).add i = ⟨b, off + i, none⟩ := by
      unfold Addr.add
      by_cases e : i = 0
      · simp [e]
      · simp [e]
    have hblk : b < w.heap.size := by
      rcases Nat.lt_or_ge b w.heap.size with h | h
      · exact h
      · rw [Array.getElem?_eq_none h] at hb; cases hb
    have hset : (w.setCell ⟨b, off + i, none⟩ v).heap[b]? = some (.cells (cs.setIfInBounds (off + i) v) ty (0, 0)) := by
      simp [World.setCell, Array.getElem?_modify, hb]
    obtain ⟨w', r1, r2, r3, r4, r5, r6, cs', r7, r8, r9, r10⟩ := storeCells_own (P := P) vs (i + 1) (w.setCell ⟨b, off + i, none⟩ v) b off _ ty hset (by simp at hl ⊢; omega) (fun u hu => h1 u (by simp [hu]))
    refine ⟨w', ?_, r2, r3, r4, by rw [r5]; simp [World.setCell], fun k hk => ?_, cs', r7, by rw [r8]; simp, ?_, ?_⟩
    · have : (store (⟨b, off + i, none⟩ : Addr) v : Sem Unit).run P w = .ok () (w.setCell ⟨b, off + i, none⟩ v) := by
        rw [run_store_one hv, hcell]
        simp [hfz]
      unfold storeCells
      rw [hadd]
      rw [Sem.run_bind, this]
      exact r1
    · rw [r6 k hk]
      exact Below.heap_setCell _ _ _ _ hk
    · intro j hj
      rw [r9 j (by simp at hj ⊢; omega), Array.getElem?_setIfInBounds_ne (by simp at hj; omega)]
    · intro j hj
      cases j with
      | zero =>
        rw [r9 (off + i + 0) (by left; omega)]
        simp [hlt]
      | succ j =>
        have := r10 j (by simpa using hj)
        rw [show off + i + (j + 1) = off + (i + 1) + j by omega, this]
        simp
end Go.Proofs.Ytemhpkfijoodkaa.Asl
