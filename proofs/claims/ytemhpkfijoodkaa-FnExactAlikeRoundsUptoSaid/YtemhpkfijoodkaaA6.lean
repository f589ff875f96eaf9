/- The program logic's rules for appends, made slices, cut slices and strings. -/
import Derived.Test.YtemhpkfijoodkaaA5
namespace Go.Proofs.Ytemhpkfijoodkaa.Asl
open Go.RowKit
set_option linter.unusedVariables false
set_option linter.unusedSimpArgs false

def Ob.killed (o : Ob) : Ob := { o with kind := .dead }

theorem Sim.kill {base : Nat} {ρ : Pl} {σ : Store} {w : World} (h : Sim base ρ σ w) {id : Nat} {o : Ob} (ho : σ[id]? = some o) : Sim base ρ (σ.set id o.killed) w := by
  have key : ∀ (i : Nat) (x : Ob), (σ.set id o.killed)[i]? = some x → (i = id ∧ x = o.killed) ∨ (i ≠ id ∧ σ[i]? = some x) := by
    intro i x hx
    rw [List.getElem?_set] at hx
    by_cases e : id = i
    · subst e
      rw [if_pos rfl] at hx
      split at hx
      · cases hx; exact .inl ⟨rfl, rfl⟩
      · cases hx
    · rw [if_neg e] at hx; exact .inr ⟨fun z => e z.symm, hx⟩
  refine ⟨fun i q hq => by simpa using h.dom i q hq, ?_, ?_, h.size, h.le⟩
  · intro i x q hx hq
    rcases key i x hx with ⟨rfl, rfl⟩ | ⟨_, hx'⟩
    · unfold ObRel; simp [Ob.killed]
    · exact h.obs i x q hx' hq
  · intro i j x y q q' hx hy lx ly hq hq' e
    rcases key i x hx with ⟨rfl, rfl⟩ | ⟨hi, hx'⟩
    · rcases lx with l | l <;> simp [Ob.killed] at l
    · rcases key j y hy with ⟨rfl, rfl⟩ | ⟨hj, hy'⟩
      · rcases ly with l | l <;> simp [Ob.killed] at l
      · exact h.inj i j x y q q' hx' hy' lx ly hq hq' e
theorem Ctx.kill {E : Env} {S : Slots} {σ : Store} {a : Act} {w : World} {ρ : Pl} (h : Ctx E S σ a w ρ) {id : Nat} {o : Ob} (ho : σ[id]? = some o) : Ctx E S (σ.set id o.killed) a w ρ :=
  { h with sim := h.sim.kill ho, n₀_le := by simpa using h.n₀_le }

/-- An object takes over a block that nobody else holds. -/
theorem Sim.adopt {base : Nat} {ρ : Pl} {σ : Store} {w w' : World} (h : Sim base ρ σ w) (o : Ob) (p : Place) (hfree : ∀ (i : Nat) (x : Ob) (q : Place), σ[i]? = some x → ρ i = some q → x.live → q.blk ≠ p.blk) (hbase : base ≤ p.blk) (hlt : p.blk < w.heap.size)
    (hsz : w'.heap.size = w.heap.size) (hb : ∀ k, k ≠ p.blk → w'.heap[k]? = w.heap[k]?) (ho : ObRel base (more ρ σ.length p) o p w') : Sim base (more ρ σ.length p) (σ ++ [o]) w' := by
  have hle := more_le h p
  have hold : ∀ i q, more ρ σ.length p i = some q → i ≠ σ.length → ρ i = some q := by
    intro i q hq hi
    simpa [more, hi] using hq
  refine ⟨?_, ?_, ?_, ?_, by rw [hsz]; exact h.le⟩
  · intro i q hq
    by_cases e : i = σ.length
    · simp; omega
    · have := h.dom i q (hold i q hq e); simp; omega
  · intro i o' q ho' hq
    by_cases e : i = σ.length
    · subst e
      rw [more_at] at hq; cases hq
      simp at ho'; subst ho'; exact ho
    · have hq' := hold i q hq e
      have hi := h.dom i q hq'
      rw [List.getElem?_append_left hi] at ho'
      have hx := h.obs i o' q ho' hq'
      rcases Kind.cases o' with hk | hk | hk
      · unfold ObRel; rw [hk]; trivial
      · exact hx.of_block hle (hb _ (by have := hx.ro_lt hk; omega))
      · exact hx.of_block hle (hb _ (hfree i o' q ho' hq' hk))
  · intro i j o1 o2 p1 p2 h1 h2 l1 l2 q1 q2 e
    by_cases ei : i = σ.length <;> by_cases ej : j = σ.length
    · omega
    · exfalso
      have k2 := hold j p2 q2 ej
      rw [List.getElem?_append_left (h.dom j p2 k2)] at h2
      rw [ei, more_at] at q1; cases q1
      exact hfree j o2 p2 h2 k2 l2 e.symm
    · exfalso
      have k1 := hold i p1 q1 ei
      rw [List.getElem?_append_left (h.dom i p1 k1)] at h1
      rw [ej, more_at] at q2; cases q2
      exact hfree i o1 p1 h1 k1 l1 e
    · have k1 := hold i p1 q1 ei
      have k2 := hold j p2 q2 ej
      rw [List.getElem?_append_left (h.dom i p1 k1)] at h1
      rw [List.getElem?_append_left (h.dom j p2 k2)] at h2
      exact h.inj i j o1 o2 p1 p2 h1 h2 l1 l2 k1 k2 e
  · intro i q hq
    rw [hsz]
    by_cases e : i = σ.length
    · rw [e, more_at] at hq; cases hq; exact hlt
    · exact h.size i q (hold i q hq e)

theorem set_length_eq (σ : Store) (id : Nat) (o : Ob) : (σ.set id o).length = σ.length := by simp

/-- An own object grows in its block: it dies, and a new one has its place. -/
theorem Ctx.grow {E : Env} {S : Slots} {σ : Store} {a : Act} {w w' : World} {ρ : Pl} (h : Ctx E S σ a w ρ) {id : Nat} {o : Ob} {p : Place} (ho : σ[id]? = some o) (hp : ρ id = some p) (hk : o.kind = .own) (hm : E.may id) (o' : Ob)
    (hos : w'.os = w.os) (htape : w'.tape = w.tape) (hout : w'.output = w.output)
    (hsz : w'.heap.size = w.heap.size) (hb : ∀ k, k ≠ p.blk → w'.heap[k]? = w.heap[k]?) (hr : ObRel E.base (more ρ σ.length p) o' p w') :
    Ctx E S (σ.set id o.killed ++ [o']) a w' (more ρ σ.length p) := by
  have hob := h.sim.obs id o p ho hp
  obtain ⟨hown, hbase⟩ := Ob.live_own hob (.inl hk)
  have hle := more_le h.sim p
  have hold : ∀ i q, more ρ σ.length p i = some q → i ≠ σ.length → ρ i = some q := by
    intro i q hq hi
    simpa [more, hi] using hq
  have hmay := h.may id p hp hown hm
  have hfree : ∀ (i : Nat) (x : Ob) (q : Place), (σ.set id o.killed)[i]? = some x → ρ i = some q → x.live → q.blk ≠ p.blk := by
    intro i x q hx hq hl e
    rw [List.getElem?_set] at hx
    by_cases ei : id = i
    · subst ei
      rw [if_pos rfl] at hx
      split at hx
      · cases hx; rcases hl with l | l <;> simp [Ob.killed] at l
      · cases hx
    · rw [if_neg ei] at hx
      exact ei (h.sim.inj i id x o q p hx ho hl (.inl hk) hq hp e).symm
  have hsim := (h.sim.kill ho).adopt (w' := w') o' p hfree hbase (h.sim.size id p hp) hsz hb (by rw [set_length_eq]; exact hr)
  rw [set_length_eq] at hsim
  refine { defers := h.defers, size := h.size, slots := ?_, sim := hsim, fr := h.fr.trans ⟨hos, htape, hout, by omega, fun k hk' hB => hb k ?_⟩, le := h.le.trans hle, old := ?_, may := ?_, fresh := ?_, n₀_le := ?_, N_le := by rw [hsz]; exact h.N_le, later := h.later }
  · intro t v ht
    obtain ⟨u, h1, h2⟩ := h.slots t v ht
    exact ⟨u, h1, h2.mono hle⟩
  · intro e; subst e
    rcases hmay with k1 | k1
    · exact hB k1
    · omega
  · intro i q hq hi
    exact h.old i q (hold i q hq (by have := h.n₀_le; omega)) hi
  · intro i q hq h1 h2
    by_cases e : i = σ.length
    · rw [e, more_at] at hq; cases hq; exact hmay
    · exact h.may i q (hold i q hq e) h1 h2
  · intro i q hq h1
    by_cases e : i = σ.length
    · rw [e, more_at] at hq; cases hq; exact ⟨hown, hmay⟩
    · exact h.fresh i q (hold i q hq e) h1
  · have := h.n₀_le; simp; omega

theorem run_loadCells {P : Program} {w : World} {b o n : Nat} {us : List Value} (hl : us.length = n) (h : ∀ j u, us[j]? = some u → w.cell? ⟨b, o + j, none⟩ = some u) : (loadCells ⟨b, o, none⟩ n).run P w = .ok us.toArray w := by
  unfold loadCells
  rw [run_loadCellsFrom n 0 #[] us hl (fun j u hu => by have := h j u hu; rw [← this]; congr 2; omega)]
  simp

/-- What is appended: some elements, read off memory. -/
structure Appends (P : Program) (σ : Store) (size n : Nat) (r : AV) (cs : List AV) : Prop where
  len : cs.length = n * size
  one : ∀ c ∈ cs, c.one = true
  read : ∀ (base : Nat) (ρ : Pl) (w : World) (v : Value), Sim base ρ σ w → R ρ r v → (Builtin.lenOf v).run P w = .ok n w ∧ ∃ us, Rs ρ cs us ∧ (Builtin.firstCells size n v).run P w = .ok us.toArray w

theorem Appends.row {P : Program} {σ : Store} {size id off n : Nat} {o : Ob} {cs : List AV} (ho : σ[id]? = some o) (hl : o.readable) (hc : cut o off (n * size) = cs) (hn : cs.length = n * size) (h1 : ∀ c ∈ cs, c.one = true) : Appends P σ size n (.sl id off n) cs := by
  refine ⟨hn, h1, fun base ρ w v hs hr => ?_⟩
  cases hr with
  | @sl _ _ _ cap p hp hle hroom =>
    obtain ⟨us, h2, h3, _, h4⟩ := hs.cut ho hp hl hc
    exact ⟨rfl, us, h2, run_loadCells (by omega) h4⟩
theorem Appends.nil {P : Program} {σ : Store} {size : Nat} {c : Nat} : Appends P σ size 0 (.lit (.slice none 0 c)) [] :=
  ⟨by simp, by simp, fun base ρ w v hs hr => by cases hr; exact ⟨rfl, [], .nil, rfl⟩⟩

section
variable {E : Env} {ops : Array Oper} {l : List Oper} {Q : Exit → Slots → Store → Prop} {S : Slots} {σ : Store} {d : Option Tmp} {ty : TypeId} {pos : String} {af : Array Edge} {x y : Operand}

theorem zeroCells_size (z : Array Value) (n : Nat) : (Builtin.zeroCells z n).size = n * z.size := by simp [Builtin.zeroCells]

theorem Ty.get {P : Program} {t : TypeId} {agg : Bool} {size bytes : Nat} {z : Value} (h : Ty P t agg size bytes z) : ∃ i, P.info? t = some i ∧ i.zero = some z ∧ i.size = size ∧ i.bytes = bytes := by
  have := h.info
  cases hi : P.info? t with
  | none => rw [hi] at this; cases this
  | some i => rw [hi] at this; simp at this; exact ⟨i, rfl, this.1, this.2.1, this.2.2⟩

/-- The machine's append, where it fits. -/
theorem run_append_fit {P : Program} {w w' : World} {t ty e : TypeId} {inf : TypeInfo} {ad : Addr} {len cap n size : Nat} {u : Value} {us : List Value} (ht : P.underlying t = some (.slice e)) (hi : P.info? e = some inf) (hs : inf.size = size)
    (hl : (Builtin.lenOf u).run P w = .ok n w) (hf : (Builtin.firstCells size n u).run P w = .ok us.toArray w) (hfit : len + n ≤ cap) (hst : (storeCells (ad.add (len * size)) us 0).run P w = .ok () w') :
    (Builtin.append_ #[t, t] ty #[.slice (some ad) len cap, u]).run P w = .ok (.slice (some ad) (len + n) cap) w' := by
  subst hs
  simp [Builtin.append_, run_underlying ht, sizeOf, typeInfo, hi, hl, hfit, hf, hst]
theorem run_append_new {P : Program} {w : World} {t ty e : TypeId} {inf : TypeInfo} {ad : Option Addr} {len cap n size : Nat} {u z : Value} {us olds : List Value} (ht : P.underlying t = some (.slice e)) (hi : P.info? e = some inf) (hs : inf.size = size) (hz : inf.zero = some z)
    (hl : (Builtin.lenOf u).run P w = .ok n w) (hf : (Builtin.firstCells size n u).run P w.drew = .ok us.toArray w.drew) (ho : (Builtin.firstCells size len (.slice ad len cap)).run P w.drew = .ok olds.toArray w.drew) (hfit : ¬ len + n ≤ cap)
    (h48 : Builtin.nextslicecap (len + n) cap * inf.bytes ≤ 281474976710656) (h0 : ((len + n : Nat) : Int) ≤ 9223372036854775807) :
    (Builtin.append_ #[t, t] ty #[.slice ad len cap, u]).run P w = .ok (.slice (some ⟨w.heap.size, 0, none⟩) (len + n) (grownCap w (len + n) cap e)) (w.drew.alloc (.cells (olds.toArray ++ us.toArray ++ Builtin.zeroCells z.cells (grownCap w (len + n) cap e - (len + n))) e)) := by
  subst hs
  have h48' : ¬ (281474976710656 < Builtin.nextslicecap (len + n) cap * inf.bytes) := by omega
  have h0' : ¬ (9223372036854775807 < ((len : Int) + (n : Int))) := by omega
  simp [Builtin.append_, run_underlying ht, sizeOf, typeInfo, zeroValue, hi, hz, hl, hfit, h0', h48', Question.forced, hf, ho, newRow, grownCap]
  congr 2
  apply Array.ext'
  simp [List.append_assoc]
theorem grownCap_ge (w : World) (need old : Nat) (e : TypeId) : need ≤ grownCap w need old e := by simp only [grownCap, Question.cut]; omega

/-- An append to a slice of the run's own. -/
theorem wl_append {t e : TypeId} {id len n : Nat} {o : Ob} {r : AV} {cs : List AV} {agg : Bool} {size bytes : Nat} {z : Value} (hx : S.ev x = some (.sl id 0 len)) (hy : S.ev y = some r) (ht : E.P.underlying t = some (.slice e)) (he : Ty E.P e agg size bytes z) (hz : z.cells.size = size) (hb0 : 0 < bytes)
    (ho : σ[id]? = some o) (hk : o.kind = .own) (hesz : o.esz = size) (hlen : o.cells.length = len * size) (ha : Appends E.P σ size n r cs) (hm : E.may id) (hlim : (len + n) * bytes ≤ 140737488355328) (hd : okd E d = true)
    (k : WL E ops l Q (S.put d (.sl σ.length 0 (len + n))) (σ.set id o.killed ++ [⟨.own, size, o.cells ++ cs, []⟩])) :
    WL E ops (⟨d, .call ⟨.builtin .append, #[x, y], #[t, t]⟩, ty, pos, af, none⟩ :: l) Q S σ := by
  refine wl_value rfl hd fun a w ρ hw => ?_
  have e1 := hw.ev hx
  have e2 := hw.ev hy
  generalize hv : a.eval x = v at e1
  generalize hu : a.eval y = u at e2
  obtain ⟨hlenOf, us, hus, hfirst⟩ := ha.read _ _ _ _ hw.sim e2
  have husl := hus.length
  have hrun : ∀ r : Unit, (execOp a.eval ⟨d, .call ⟨.builtin .append, #[x, y], #[t, t]⟩, ty, pos, af, none⟩).run E.P w = ((Builtin.append_ #[t, t] ty #[v, u]).run E.P w).andThen fun v w => .ok (.value v) w := by
    intro _
    simp [execOp, resolve, invoke, builtin, hv, hu]
  cases e1 with
  | @sl _ _ _ cap p hp hle hroom =>
    have hob := hw.sim.obs id o p ho hp
    unfold ObRel at hob; rw [hk] at hob
    obtain ⟨q1, q2, q3, q4, arr, ety, q5, q6, q7, q8⟩ := hob
    obtain ⟨inf, i1, i2, i3, i4⟩ := he.get
    rw [q2, hesz] at hroom
    by_cases hfit : len + n ≤ cap
    · -- it fits
      have hcap : (len + n) * size ≤ cap * size := Nat.mul_le_mul_right _ hfit
      have hcs' : len * size + n * size ≤ arr.size := by rw [Nat.add_mul] at hcap; omega
      obtain ⟨w', r1, r2, r3, r4, r5, r6, arr', r7, r8, r9, r10⟩ := storeCells_own (P := E.P) us 0 w p.blk (len * size) arr ety q5 (by rw [← husl, ha.len]; omega) (hus.one ha.one)
      simp only [Nat.add_zero] at r9 r10
      refine ⟨.slice (some ⟨p.blk, p.off + 0, none⟩) (len + n) cap, w', .sl σ.length 0 (len + n), _, more ρ σ.length p, ?_, ?_, hw.grow ho hp hk hm _ r2 r3 r4 r5 r6 ?_, k⟩
      · rw [hrun (), run_append_fit ht i1 i3 hlenOf hfirst hfit (w' := w') (by rw [addr_add, q4]; simpa using r1)]
        rfl
      · exact .sl (more_at _ _ _) hfit (by rw [q2, hesz]; exact hroom)
      · unfold ObRel
        simp only
        refine ⟨q1, by rw [q2, hesz], q3, q4, arr', ety, r7, by rw [r8]; exact q6, by simp [ha.len, hlen, r8]; omega, fun i c hc => ?_⟩
        rw [List.getElem?_append] at hc
        by_cases g1 : i < o.cells.length
        · rw [if_pos g1] at hc
          obtain ⟨s1, u', s2, s3⟩ := q8 i c hc
          exact ⟨s1, u', by rw [r9 i (.inl (by omega))]; exact s2, s3.mono (more_le hw.sim p)⟩
        · rw [if_neg g1] at hc
          obtain ⟨u', s2, s3⟩ := hus.get _ c hc
          refine ⟨ha.one c (List.mem_of_getElem? hc), u', ?_, s3.mono (more_le hw.sim p)⟩
          have hi : i - o.cells.length < us.length := by
            rcases Nat.lt_or_ge (i - o.cells.length) us.length with h | h
            · exact h
            · rw [List.getElem?_eq_none h] at s2; cases s2
          have := r10 (i - o.cells.length) hi
          rw [show len * size + (i - o.cells.length) = i by omega] at this
          rw [this]; exact s2
    · -- a new row
      have hgrow : Builtin.nextslicecap (len + n) cap * bytes ≤ 281474976710656 := growslice_fits (by omega) hlim
      obtain ⟨olds, o1, o2, o3, o4⟩ := hw.sim.cut (off := 0) (n := o.cells.length) (cs := o.cells) ho hp (.inr hk) (by unfold cut; simp)
      have hnc := grownCap_ge w (len + n) cap e
      have hold : (Builtin.firstCells size len (.slice (some ⟨p.blk, p.off + 0, none⟩) len cap)).run E.P w.drew = .ok olds.toArray w.drew := by
        unfold Builtin.firstCells
        exact run_loadCells (by rw [o2, hlen]) (fun j u' hj => by have := o4 j u' hj; exact this)
      obtain ⟨_, us2, hus2, hfirst2⟩ := ha.read _ _ _ _ hw.drew.sim e2
      have husl2 := hus2.length
      have hC := (hw.kill ho).drew.newCells (o.cells ++ cs) (olds.toArray ++ us2.toArray ++ Builtin.zeroCells z.cells (grownCap w (len + n) cap e - (len + n))) size e ⟨by simp [zeroCells_size, o2, ← husl2], fun i c hc => by
        rw [List.getElem?_append] at hc
        by_cases g1 : i < o.cells.length
        · rw [if_pos g1] at hc
          obtain ⟨u', s2, s3⟩ := o1.get _ c hc
          refine ⟨o3 c (List.mem_of_getElem? hc), u', ?_, s3⟩
          rw [Array.getElem?_append, if_pos (by simp [o2]; omega), Array.getElem?_append, if_pos (by simp [o2]; omega)]
          simpa using s2
        · rw [if_neg g1] at hc
          obtain ⟨u', s2, s3⟩ := hus2.get _ c hc
          have hi : i - o.cells.length < us2.length := by
            rcases Nat.lt_or_ge (i - o.cells.length) us2.length with h | h
            · exact h
            · rw [List.getElem?_eq_none h] at s2; cases s2
          refine ⟨ha.one c (List.mem_of_getElem? hc), u', ?_, s3⟩
          rw [Array.getElem?_append, if_pos (by simp [o2]; omega), Array.getElem?_append, if_neg (by simp [o2]; omega)]
          simp only [List.size_toArray, o2]
          simpa using s2⟩
      rw [set_length_eq] at hC
      refine ⟨.slice (some ⟨w.heap.size, 0, none⟩) (len + n) (grownCap w (len + n) cap e), _, .sl σ.length 0 (len + n), _, _, ?_, ?_, hC, k⟩
      · rw [hrun (), run_append_new ht i1 i3 i2 hlenOf hfirst2 hold hfit (by rw [i4]; exact hgrow) (by
          have : len + n ≤ (len + n) * bytes := Nat.le_mul_of_pos_right _ hb0
          omega)]
        rfl
      · refine .sl (p := ⟨w.drew.heap.size, 0, _, size, true⟩) (more_at _ _ _) hnc ?_
        simp [zeroCells_size, o2, hlen, ← husl2, ha.len, hz]
        rw [Nat.sub_mul]
        have : (len + n) * size ≤ grownCap w (len + n) cap e * size := Nat.mul_le_mul_right _ hnc
        rw [Nat.add_mul] at this ⊢
        omega

/-- An append to a nil slice. -/
theorem wl_append_nil {t e : TypeId} {n : Nat} {r : AV} {cs : List AV} {agg : Bool} {size bytes : Nat} {z : Value} (hx : S.ev x = some (.lit (.slice none 0 0))) (hy : S.ev y = some r) (ht : E.P.underlying t = some (.slice e)) (he : Ty E.P e agg size bytes z) (hz : z.cells.size = size) (hb0 : 0 < bytes)
    (ha : Appends E.P σ size n r cs) (hn : 0 < n) (hlim : n * bytes ≤ 140737488355328) (hd : okd E d = true)
    (k : WL E ops l Q (S.put d (.sl σ.length 0 n)) (σ ++ [⟨.own, size, cs, []⟩])) :
    WL E ops (⟨d, .call ⟨.builtin .append, #[x, y], #[t, t]⟩, ty, pos, af, none⟩ :: l) Q S σ := by
  refine wl_value rfl hd fun a w ρ hw => ?_
  have e1 := R_lit (hw.ev hx)
  have e2 := hw.ev hy
  generalize hu : a.eval y = u at e2
  obtain ⟨hlenOf, us, hus, hfirst⟩ := ha.read _ _ _ _ hw.sim e2
  obtain ⟨_, us2, hus2, hfirst2⟩ := ha.read _ _ _ _ hw.drew.sim e2
  have husl2 := hus2.length
  obtain ⟨inf, i1, i2, i3, i4⟩ := he.get
  have hrun : (execOp a.eval ⟨d, .call ⟨.builtin .append, #[x, y], #[t, t]⟩, ty, pos, af, none⟩).run E.P w = ((Builtin.append_ #[t, t] ty #[.slice none 0 0, u]).run E.P w).andThen fun v w => .ok (.value v) w := by
    simp [execOp, resolve, invoke, builtin, e1, hu]
  have hnc := grownCap_ge w (0 + n) 0 e
  have hC := hw.drew.newCells cs (([] : List Value).toArray ++ us2.toArray ++ Builtin.zeroCells z.cells (grownCap w (0 + n) 0 e - (0 + n))) size e ⟨by simp [zeroCells_size, ← husl2], fun i c hc => by
    obtain ⟨u', s2, s3⟩ := hus2.get _ c hc
    refine ⟨ha.one c (List.mem_of_getElem? hc), u', ?_, s3⟩
    have hi : i < us2.length := by
      rcases Nat.lt_or_ge i us2.length with h | h
      · exact h
      · rw [List.getElem?_eq_none h] at s2; cases s2
    rw [Array.getElem?_append, if_pos (by simp; omega)]
    simpa using s2⟩
  refine ⟨.slice (some ⟨w.heap.size, 0, none⟩) (0 + n) (grownCap w (0 + n) 0 e), _, .sl σ.length 0 n, _, _, ?_, ?_, hC, k⟩
  · rw [hrun, run_append_new ht i1 i3 i2 hlenOf hfirst2 (olds := []) rfl (by omega) (by rw [i4]; exact growslice_fits (by omega) (by simpa using hlim)) (by
      have : n ≤ n * bytes := Nat.le_mul_of_pos_right _ hb0
      omega)]
    rfl
  · have := R.sl (ρ := more ρ σ.length ⟨w.drew.heap.size, 0, (([] : List Value).toArray ++ us2.toArray ++ Builtin.zeroCells z.cells (grownCap w (0 + n) 0 e - (0 + n))).size, size, true⟩) (id := σ.length) (off := 0) (len := 0 + n) (cap := grownCap w (0 + n) 0 e) (more_at _ _ _) hnc (by
      simp [zeroCells_size, ← husl2, ha.len, hz]
      rw [Nat.sub_mul]
      simp only [Nat.zero_add] at hnc
      have : n * size ≤ grownCap w n 0 e * size := Nat.mul_le_mul_right _ hnc
      omega)
    simpa using this
/-- Nothing is appended. -/
theorem wl_append_none {t e : TypeId} {id len : Nat} {r : AV} {agg : Bool} {size bytes : Nat} {z : Value} {o : Ob} (hx : S.ev x = some (.sl id 0 len)) (hy : S.ev y = some r) (ht : E.P.underlying t = some (.slice e)) (he : Ty E.P e agg size bytes z)
    (ha : Appends E.P σ size 0 r []) (hd : okd E d = true) (k : WL E ops l Q (S.put d (.sl id 0 len)) σ) :
    WL E ops (⟨d, .call ⟨.builtin .append, #[x, y], #[t, t]⟩, ty, pos, af, none⟩ :: l) Q S σ := by
  refine wl_value rfl hd fun a w ρ hw => ?_
  have e1 := hw.ev hx
  have e2 := hw.ev hy
  generalize hv : a.eval x = v at e1
  generalize hu : a.eval y = u at e2
  obtain ⟨hlenOf, us, hus, hfirst⟩ := ha.read _ _ _ _ hw.sim e2
  have : us = [] := by have := hus.length; simpa using this.symm
  subst this
  obtain ⟨inf, i1, i2, i3, i4⟩ := he.get
  have hrun : (execOp a.eval ⟨d, .call ⟨.builtin .append, #[x, y], #[t, t]⟩, ty, pos, af, none⟩).run E.P w = ((Builtin.append_ #[t, t] ty #[v, u]).run E.P w).andThen fun v w => .ok (.value v) w := by
    simp [execOp, resolve, invoke, builtin, hv, hu]
  cases e1 with
  | @sl _ _ _ cap p hp hle hroom =>
    refine ⟨_, w, .sl id 0 len, σ, ρ, ?_, .sl hp hle hroom, hw, k⟩
    rw [hrun, run_append_fit ht i1 i3 hlenOf hfirst (by omega) (w' := w) rfl]
    rfl
theorem wl_append_nil_none {t e : TypeId} {r : AV} {agg : Bool} {size bytes : Nat} {z : Value} (hx : S.ev x = some (.lit (.slice none 0 0))) (hy : S.ev y = some r) (ht : E.P.underlying t = some (.slice e)) (he : Ty E.P e agg size bytes z)
    (ha : Appends E.P σ size 0 r []) (hd : okd E d = true) (k : WL E ops l Q (S.put d (.lit (.slice none 0 0))) σ) :
    WL E ops (⟨d, .call ⟨.builtin .append, #[x, y], #[t, t]⟩, ty, pos, af, none⟩ :: l) Q S σ := by
  refine wl_value rfl hd fun a w ρ hw => ?_
  have e1 := R_lit (hw.ev hx)
  have e2 := hw.ev hy
  generalize hu : a.eval y = u at e2
  obtain ⟨hlenOf, us, hus, hfirst⟩ := ha.read _ _ _ _ hw.sim e2
  have : us = [] := by have := hus.length; simpa using this.symm
  subst this
  obtain ⟨inf, i1, i2, i3, i4⟩ := he.get
  refine ⟨_, w, .lit (.slice none 0 0), σ, ρ, ?_, .lit _, hw, k⟩
  subst i3
  simp [execOp, resolve, invoke, builtin, e1, hu, Builtin.append_, run_underlying ht, sizeOf, typeInfo, i1, hlenOf, hfirst]
end
end Go.Proofs.Ytemhpkfijoodkaa.Asl
