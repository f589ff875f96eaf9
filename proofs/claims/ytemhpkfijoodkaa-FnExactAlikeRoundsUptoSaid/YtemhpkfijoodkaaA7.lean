/- The program logic's rules for code and for calls. -/
import Derived.Test.YtemhpkfijoodkaaA6
import Derived.Deep.LoopGhost
import Derived.Scope
namespace Go.Proofs.Ytemhpkfijoodkaa.Asl
open Go.RowKit
set_option linter.unusedVariables false
set_option linter.unusedSimpArgs false

section
variable {E : Env} {Q : Exit → Slots → Store → Prop} {S : Slots} {σ : Store}

/-- What follows, and otherwise Q. -/
def andThen (K : Slots → Store → Prop) (Q : Exit → Slots → Store → Prop) : Exit → Slots → Store → Prop
  | .normal, S, σ => K S σ
  | e, S, σ => Q e S σ
def inBlock (id : Nat) (Q : Exit → Slots → Store → Prop) : Exit → Slots → Store → Prop
  | .exit j, S, σ => if j = id then Q .normal S σ else Q (.exit j) S σ
  | e, S, σ => Q e S σ
def noGoto (Q : Exit → Slots → Store → Prop) : Exit → Slots → Store → Prop
  | .goto _, _, _ => False
  | e, S, σ => Q e S σ

theorem WP.mono {c : Code} {Q' : Exit → Slots → Store → Prop} (h : WP E c Q S σ) (hq : ∀ e S σ, Q e S σ → Q' e S σ) : WP E c Q' S σ :=
  fun a w ρ hc => wp_mono (h a w ρ hc) fun e a' w' ⟨S', σ', ρ', h1, h2⟩ => ⟨S', σ', ρ', hq _ _ _ h1, h2⟩
theorem WP.less {c : Code} {S' : Slots} (h : WP E c Q S σ) (hs : Sub S S') : WP E c Q S' σ := fun a w ρ hc => h a w ρ (hc.less hs)
theorem WL.less {ops : Array Oper} {l : List Oper} {S' : Slots} (h : WL E ops l Q S σ) (hs : Sub S S') : WL E ops l Q S' σ := fun a w ρ hc => h a w ρ (hc.less hs)

theorem wp_skipA (h : Q .normal S σ) : WP E .skip Q S σ := fun a w ρ hc => wp_skip ⟨S, σ, ρ, h, hc⟩
theorem wp_retA (h : Q .ret S σ) : WP E .ret Q S σ := fun a w ρ hc => wp_ret ⟨S, σ, ρ, h, hc⟩
theorem wp_exitA {id : Nat} (h : Q (.exit id) S σ) : WP E (.exit id) Q S σ := fun a w ρ hc => wp_exit ⟨S, σ, ρ, h, hc⟩
theorem wp_seqA {x y : Code} (h : WP E x (andThen (WP E y Q) Q) S σ) : WP E (.seq x y) Q S σ := by
  intro a w ρ hc
  refine wp_seq (wp_mono (h a w ρ hc) ?_)
  rintro e a' w' ⟨S', σ', ρ', h1, h2⟩
  cases e with
  | normal => exact h1 _ _ _ h2
  | exit id => exact ⟨S', σ', ρ', h1, h2⟩
  | goto l => exact ⟨S', σ', ρ', h1, h2⟩
  | ret => exact ⟨S', σ', ρ', h1, h2⟩
  | panic ch => exact ⟨S', σ', ρ', h1, h2⟩
  | outgrown => exact ⟨S', σ', ρ', h1, h2⟩
theorem wp_condA {c : Operand} {x y : Code} {b : Bool} (hb : S.ev c = some (.lit (.bool b))) (ht : b = true → WP E x Q S σ) (hf : b = false → WP E y Q S σ) : WP E (.cond c x y) Q S σ := by
  intro a w ρ hc
  exact wp_cond_split (R_lit (hc.ev hb)) (fun h => ht h a w ρ hc) (fun h => hf h a w ρ hc)
theorem wp_blockA {id : Nat} {c : Code} (h : WP E c (inBlock id Q) S σ) : WP E (.block id c) Q S σ := by
  intro a w ρ hc
  refine wp_block (wp_mono (h a w ρ hc) ?_)
  rintro e a' w' ⟨S', σ', ρ', h1, h2⟩
  cases e with
  | exit j =>
    by_cases hj : j = id
    · simp only [Exit.inBlock, inBlock, hj, if_true] at h1 ⊢; exact ⟨S', σ', ρ', h1, h2⟩
    · simp only [Exit.inBlock, inBlock, hj, if_false] at h1 ⊢; exact ⟨S', σ', ρ', h1, h2⟩
  | normal => exact ⟨S', σ', ρ', h1, h2⟩
  | goto l => exact ⟨S', σ', ρ', h1, h2⟩
  | ret => exact ⟨S', σ', ρ', h1, h2⟩
  | panic ch => exact ⟨S', σ', ρ', h1, h2⟩
  | outgrown => exact ⟨S', σ', ρ', h1, h2⟩
theorem wp_scopeA {c : Code} (h : WP E c (noGoto Q) S σ) : WP E (.scope c) Q S σ := by
  intro a w ρ hc
  refine wp_scope_straight (wp_mono (h a w ρ hc) ?_)
  rintro e a' w' ⟨S', σ', ρ', h1, h2⟩
  cases e with
  | goto l => exact h1
  | exit id => exact ⟨S', σ', ρ', h1, h2⟩
  | normal => exact ⟨S', σ', ρ', h1, h2⟩
  | ret => exact ⟨S', σ', ρ', h1, h2⟩
  | panic ch => exact ⟨S', σ', ρ', h1, h2⟩
  | outgrown => exact ⟨S', σ', ρ', h1, h2⟩
/-- A loop: an invariant that bears a number, which every round lowers. -/
theorem wp_loopA {c : Code} (I : Nat → Slots → Store → Prop) (n₀ : Nat) (h₀ : I n₀ S σ)
    (round : ∀ n S σ, I n S σ → WP E c (andThen (fun S' σ' => ∃ m, m < n ∧ I m S' σ') Q) S σ) : WP E (.loop c) Q S σ := by
  intro a w ρ hc
  refine wp_loop_ghost (fun n a w => ∃ S σ ρ, I n S σ ∧ Ctx E S σ a w ρ) n₀ ⟨S, σ, ρ, h₀, hc⟩ ?_
  rintro n a w ⟨S, σ, ρ, hI, hc⟩
  refine wp_mono (round n S σ hI a w ρ hc) ?_
  rintro e a' w' ⟨S', σ', ρ', h1, h2⟩
  cases e with
  | normal =>
    obtain ⟨m, hm, hI'⟩ := h1
    exact ⟨m, hm, S', σ', ρ', hI', h2⟩
  | exit id => exact ⟨S', σ', ρ', h1, h2⟩
  | goto l => exact ⟨S', σ', ρ', h1, h2⟩
  | ret => exact ⟨S', σ', ρ', h1, h2⟩
  | panic ch => exact ⟨S', σ', ρ', h1, h2⟩
  | outgrown => exact ⟨S', σ', ρ', h1, h2⟩
/-- A cut: what holds at a place. -/
theorem WP.cut {c : Code} {K : Slots → Store → Prop} (Mid : Slots → Store → Prop) (h : WP E c (andThen Mid Q) S σ) (k : ∀ S' σ', Mid S' σ' → K S' σ') : WP E c (andThen K Q) S σ :=
  h.mono fun e S' σ' h => by cases e <;> first | exact k _ _ h | exact h

theorem nextA {y : Code} {Q' : Exit → Slots → Store → Prop} (h : WP E y Q S σ) : andThen (WP E y Q) Q' .normal S σ := h
theorem exit_here {id : Nat} (h : Q .normal S σ) : inBlock id Q (.exit id) S σ := by simp only [inBlock, if_true]; exact h
theorem exit_past {id j : Nat} (hj : j ≠ id) (h : Q (.exit j) S σ) : inBlock id Q (.exit j) S σ := by simp only [inBlock, if_neg hj]; exact h

theorem sub_nil {S : Slots} : Sub [] S := fun t v h => by simp [Slots.get] at h
theorem sub_cons {S S' : Slots} {t : Nat} {v : AV} (h : S'.get t = some v) (hs : Sub S S') : Sub ((t, v) :: S) S' := by
  intro t' v' h'
  by_cases e : t' = t
  · subst e; rw [lookup_cons_eq] at h'; cases h'; exact h
  · rw [lookup_cons_ne e] at h'; exact hs t' v' h'

variable {ops : Array Oper} {l : List Oper} {d : Option Tmp} {ty : TypeId} {pos : String} {af : Array Edge}

/-- The operands of a call, read off the slots. -/
def evs (S : Slots) : List Operand → Option (List AV)
  | [] => some []
  | x :: xs => match S.ev x, evs S xs with
    | some r, some rs => some (r :: rs)
    | _, _ => none
theorem Ctx.evs {a : Act} {w : World} {ρ : Pl} (h : Ctx E S σ a w ρ) : ∀ {xs : List Operand} {rs : List AV}, Asl.evs S xs = some rs → Rs ρ rs (xs.map a.eval)
  | [], rs, hx => by simp [Asl.evs] at hx; subst hx; exact .nil
  | x :: xs, rs, hx => by
    unfold Asl.evs at hx
    cases h1 : S.ev x with
    | none => rw [h1] at hx; simp at hx
    | some r =>
      cases h2 : Asl.evs S xs with
      | none => rw [h1, h2] at hx; simp at hx
      | some rs' =>
        rw [h1, h2] at hx
        simp at hx; subst hx
        exact .cons (h.ev h1) (Ctx.evs h h2)

/-- What a call gives its caller. -/
theorem Ctx.called {a : Act} {w w' : World} {ρ ρ' : Pl} {σ' : Store} {T : Nat → Prop} (h : Ctx E S σ a w ρ) (hT : ∀ i, T i → E.may i) (hsim : Sim E.base ρ' σ' w') (hle : Le ρ ρ') (hlen : σ.length ≤ σ'.length)
    (hold : ∀ id p, ρ' id = some p → id < σ.length → ρ id = some p)
    (hnew : ∀ id p, ρ' id = some p → σ.length ≤ id → p.own = true ∧ ((∃ i q, T i ∧ ρ i = some q ∧ q.blk = p.blk) ∨ w.heap.size ≤ p.blk))
    (hTown : ∀ i q, T i → ρ i = some q → q.own = true)
    (hfr : Fr w.heap.size (fun b => ∃ i q, T i ∧ ρ i = some q ∧ q.own = true ∧ q.blk = b) w w') : Ctx E S σ' a w' ρ' := by
  have hblk : ∀ id p, ρ' id = some p → σ.length ≤ id → E.B p.blk ∨ E.N ≤ p.blk := by
    intro id p hp hi
    rcases (hnew id p hp hi).2 with ⟨i, q, h1, h2, h3⟩ | h1
    · rw [← h3]; exact h.may i q h2 (hTown i q h1 h2) (hT i h1)
    · exact .inr (Nat.le_trans h.N_le h1)
  refine { defers := h.defers, size := h.size, slots := ?_, sim := hsim, fr := h.fr.trans ⟨hfr.os, hfr.tape, hfr.output, hfr.size, fun k hk hB => hfr.block k (Nat.lt_of_lt_of_le hk h.N_le) ?_⟩, le := h.le.trans hle, old := ?_, may := ?_, fresh := ?_, n₀_le := Nat.le_trans h.n₀_le hlen, N_le := Nat.le_trans h.N_le hfr.size, later := h.later }
  · intro t v ht
    obtain ⟨u, h1, h2⟩ := h.slots t v ht
    exact ⟨u, h1, h2.mono hle⟩
  · rintro ⟨i, q, h1, h2, h3, rfl⟩
    rcases h.may i q h2 h3 (hT i h1) with k1 | k1
    · exact hB k1
    · omega
  · intro id p hp hi
    exact h.old id p (hold id p hp (Nat.lt_of_lt_of_le hi h.n₀_le)) hi
  · intro id p hp h1 h2
    rcases Nat.lt_or_ge id σ.length with hi | hi
    · exact h.may id p (hold id p hp hi) h1 h2
    · exact hblk id p hp hi
  · intro id p hp h1
    rcases Nat.lt_or_ge id σ.length with hi | hi
    · exact h.fresh id p (hold id p hp hi) h1
    · exact ⟨(hnew id p hp hi).1, hblk id p hp hi⟩

/-- A function that can be called: it has a body, and is none that the machine answers itself. -/
class Callable (P : Program) (f : FuncId) : Prop where
  ok : ∃ fn, P.funcs[f]? = some fn ∧ (fn.name == "runtime.NumGoroutine") = false ∧ fn.body.isNone = false

theorem wl_call {x : Operand} {args : Array Operand} {ats : Array TypeId} {f : FuncId} {caps rs : List AV} {T : Nat → Prop} {K : AV → Store → Prop} (hf : S.ev x = some (.fn f caps)) (hc : Callable E.P f) (hargs : evs S args.toList = some rs)
    (h : ACall E.P E.base f (rs ++ caps) σ T K) (hT : ∀ i, T i → E.may i ∧ ∃ o, σ[i]? = some o ∧ o.live) (hd : okd E d = true) (k : ∀ r σ', K r σ' → WL E ops l Q (S.put d r) σ') :
    WL E ops (⟨d, .call ⟨.value x, args, ats⟩, ty, pos, af, none⟩ :: l) Q S σ := by
  intro a w ρ hw
  have e1 := hw.ev hf
  have e2 := hw.evs hargs
  generalize hv : a.eval x = v at e1
  cases e1 with
  | @fn _ _ cs hcs =>
    obtain ⟨fn, hfn, hname, hbody⟩ := hc.ok
    have hrun : (execOp a.eval ⟨d, .call ⟨.value x, args, ats⟩, ty, pos, af, none⟩).run E.P w = .ok (.enter f ((args.toList.map a.eval) ++ cs).toArray) w := by
      simp only [execOp, resolve, hv, Deferred.ofValue, Sem.run_bind, Sem.run_pure, Result.andThen_ok, invoke, callFunc, run_program, hfn, hname, hbody, if_neg, Bool.false_eq_true, if_false]
      congr 2
      apply Array.ext'
      simp
    simp only [wpOpsL, Region.wanted, if_true, Oper.wp, hrun, Oper.upon]
    refine (h w ρ _ (e2.append hcs) hw.sim).mono ?_
    rintro e w' ⟨r, v, σ', ρ', rfl, hr, hK, hsim, hle, hlen, hold, hnew, hfr⟩
    have hTown : ∀ i q, T i → ρ i = some q → q.own = true := by
      intro i q hi hq
      obtain ⟨o, ho, hl⟩ := (hT i hi).2
      exact (Ob.live_own (hw.sim.obs i o q ho hq) hl).1
    exact k r σ' hK _ _ _ ((hw.called (fun i hi => (hT i hi).1) hsim hle hlen hold hnew hTown hfr).put hd hr)
end

/-- What a function's results are. -/
def ResOK (P : Program) (fn : Func) (S : Slots) (σ : Store) (r : AV) : Prop :=
  ∀ (E : Env) (a : Act) (w : World) (ρ : Pl), E.P = P → Ctx E S σ a w ρ → ∃ v, (results fn a.tmps).run P w = .ok v w ∧ R ρ r v

/-- At the end of a body. -/
def atEnd (P : Program) (fn : Func) (K : AV → Store → Prop) : Exit → Slots → Store → Prop
  | .ret, S, σ | .normal, S, σ => ∃ r, ResOK P fn S σ r ∧ K r σ
  | _, _, _ => False

theorem Ctx.getD {E : Env} {S : Slots} {σ : Store} {a : Act} {w : World} {ρ : Pl} (hc : Ctx E S σ a w ρ) {t : Nat} {x : AV} (hx : S.get t = some x) : R ρ x (a.tmps.getD t undef) := by
  obtain ⟨u, h1, h2⟩ := hc.slots t x hx
  simpa [Array.getD_eq_getD_getElem?, h1] using h2
section
variable {P : Program} {fn : Func} {S : Slots} {σ : Store}
theorem res0 (h : fn.results = #[]) : ResOK P fn S σ (.tup []) := fun E a w ρ _ hc => ⟨_, results_none h _ _ _, .tup .nil⟩
theorem res1 {t : Tmp} {x : AV} (h : fn.results = #[.tmp t]) (hx : S.get t = some x) : ResOK P fn S σ x := fun E a w ρ _ hc => ⟨_, results_tmp h _ _ _, hc.getD hx⟩
theorem res2 {t u : Tmp} {x y : AV} (h : fn.results = #[.tmp t, .tmp u]) (hx : S.get t = some x) (hy : S.get u = some y) : ResOK P fn S σ (.tup [x, y]) :=
  fun E a w ρ _ hc => ⟨_, results_tmp2 h _ _ _, .tup (.cons (hc.getD hx) (.cons (hc.getD hy) .nil))⟩
theorem res3 {t u v : Tmp} {x y z : AV} (h : fn.results = #[.tmp t, .tmp u, .tmp v]) (hx : S.get t = some x) (hy : S.get u = some y) (hz : S.get v = some z) : ResOK P fn S σ (.tup [x, y, z]) :=
  fun E a w ρ _ hc => ⟨.tuple #[a.tmps.getD t undef, a.tmps.getD u undef, a.tmps.getD v undef], by simp [results, h], .tup (.cons (hc.getD hx) (.cons (hc.getD hy) (.cons (hc.getD hz) .nil)))⟩

/-- A struct in memory, read whole. -/
theorem Ctx.readCell {E : Env} {a : Act} {w : World} {ρ : Pl} (hc : Ctx E S σ a w ρ) (hP : E.P = P) {c : Tmp} {t : TypeId} {id off size bytes : Nat} {z : Value} {o : Ob} {cs : List AV} (hx : S.get c = some (.pt id off)) (ht : Ty P t true size bytes z) (ho : σ[id]? = some o) (hl : o.readable) (hcs : cut o off size = cs) (hn : cs.length = size) :
    ∃ ad v, (asAddr (a.tmps[c]?.getD undef)).run P w = .ok ad w ∧ (loadVar t ad).run P w = .ok v w ∧ R ρ (.agg cs) v := by
  have h1 := hc.getD hx
  rw [Array.getD_eq_getD_getElem?] at h1
  generalize hv : a.tmps[c]?.getD undef = v at h1
  cases h1 with
  | pt hp =>
    obtain ⟨us, h2, h3, _, h4⟩ := hc.sim.cut ho hp hl hcs
    refine ⟨_, .agg us.toArray, rfl, ?_, .agg h2⟩
    simp only [loadVar, Sem.run_bind, Sem.run_pure, Result.andThen_ok, ht.isAgg, if_true, ht.sizeOf, loadCells]
    rw [run_loadCellsFrom size 0 #[] us (by omega) (fun j u hu => by have := h4 j u hu; rw [← this]; congr 2; omega)]
    simp
theorem resC {c : Tmp} {t : TypeId} {id off size bytes : Nat} {z : Value} {o : Ob} {cs : List AV} (h : fn.results = #[.cell c t]) (hx : S.get c = some (.pt id off)) (ht : Ty P t true size bytes z) (ho : σ[id]? = some o) (hl : o.readable) (hcs : cut o off size = cs) (hn : cs.length = size) : ResOK P fn S σ (.agg cs) := by
  intro E a w ρ hP hc
  obtain ⟨ad, v, h0, h1, h2⟩ := hc.readCell hP hx ht ho hl hcs hn
  refine ⟨v, ?_, h2⟩
  simp [results, h, h0, h1]
theorem resCT {c u : Tmp} {t : TypeId} {id off size bytes : Nat} {z : Value} {o : Ob} {cs : List AV} {y : AV} (h : fn.results = #[.cell c t, .tmp u]) (hx : S.get c = some (.pt id off)) (ht : Ty P t true size bytes z) (ho : σ[id]? = some o) (hl : o.readable) (hcs : cut o off size = cs) (hn : cs.length = size) (hy : S.get u = some y) : ResOK P fn S σ (.tup [.agg cs, y]) := by
  intro E a w ρ hP hc
  obtain ⟨ad, v, h0, h1, h2⟩ := hc.readCell hP hx ht ho hl hcs hn
  refine ⟨.tuple #[v, a.tmps.getD u undef], ?_, .tup (.cons h2 (.cons (hc.getD hy) .nil))⟩
  simp [results, h, h0, h1]
end

/-- A call, out of a walk through the function's body. -/
theorem acall_of_wp {P : Program} {base : Nat} {f : FuncId} {fn : Func} {c : Code} {n : Nat} {args : List AV} {σ : Store} {T : Nat → Prop} {K : AV → Store → Prop} (hf : P.funcs[f]? = some fn) (hb : fn.body = some c) (hn : fn.ntmps = n) (hlen : args.length ≤ n)
    (h : ∀ (N : Nat) (B : Nat → Prop) (w₀ : World) (ρ₀ : Pl), WP ⟨P, base, n, fun i => T i ∨ σ.length ≤ i, N, B, w₀, ρ₀, σ.length⟩ c (atEnd P fn K) (args.zipIdx.map fun x => (x.2, x.1)) σ) : ACall P base f args σ T K := by
  intro w ρ vs hvs hsim
  have hl := hvs.length
  refine calls_of_wp hf hb ?_
  have hC : Ctx ⟨P, base, n, fun i => T i ∨ σ.length ≤ i, w.heap.size, fun b => ∃ i q, T i ∧ ρ i = some q ∧ q.own = true ∧ q.blk = b, w, ρ, σ.length⟩ (args.zipIdx.map fun x => (x.2, x.1)) σ
      ⟨vs.toArray ++ Array.replicate (fn.ntmps - vs.toArray.size) undef, []⟩ w ρ := by
    refine { defers := rfl, size := by simp [hn]; omega, slots := ?_, sim := hsim, fr := Fr.refl _ _ _, le := Le.refl _, old := fun _ _ h _ => h, may := ?_, fresh := ?_, n₀_le := Nat.le_refl _, N_le := Nat.le_refl _, later := fun _ h => .inr h }
    · intro t v ht
      have key : ∀ (args : List AV) (k : Nat), Slots.get ((args.zipIdx k).map fun x => (x.2, x.1)) t = some v → ∃ i, t = k + i ∧ args[i]? = some v := by
        intro args
        induction args with
        | nil => intro k h; simp [Slots.get] at h
        | cons x xs ih =>
          intro k h
          simp only [List.zipIdx_cons, List.map_cons] at h
          by_cases e : t = k
          · subst e; rw [lookup_cons_eq] at h; exact ⟨0, rfl, by simpa using h⟩
          · rw [lookup_cons_ne e] at h
            obtain ⟨i, h1, h2⟩ := ih (k + 1) h
            exact ⟨i + 1, by omega, by simpa using h2⟩
      obtain ⟨i, h1, h2⟩ := key args 0 ht
      obtain ⟨u, h3, h4⟩ := hvs.get i v h2
      refine ⟨u, ?_, h4⟩
      have hi : i < vs.length := by
        rcases Nat.lt_or_ge i vs.length with h | h
        · exact h
        · rw [List.getElem?_eq_none h] at h3; cases h3
      rw [show t = i by omega, Array.getElem?_append, if_pos (by simpa using hi)]
      simpa using h3
    · intro i p hp hown hm
      rcases hm with hm | hm
      · exact .inl ⟨i, p, hm, hp, hown, rfl⟩
      · have := hsim.dom i p hp; omega
    · intro i p hp hi
      have := hsim.dom i p hp
      simp only at hi
      omega
  refine wp_mono (h _ _ _ _ _ w ρ hC) ?_
  rintro e a' w' ⟨S', σ', ρ', h1, h2⟩
  have fin : (∃ r, ResOK P fn S' σ' r ∧ K r σ') → ∃ v, (results fn a'.tmps).run P w' = .ok v w' ∧ ∃ r v' σ'' ρ'', Ending.returned v = .returned v' ∧ R ρ'' r v' ∧ K r σ'' ∧ Sim base ρ'' σ'' w' ∧ Le ρ ρ'' ∧ σ.length ≤ σ''.length ∧
      (∀ id p, ρ'' id = some p → id < σ.length → ρ id = some p) ∧
      (∀ id p, ρ'' id = some p → σ.length ≤ id → p.own = true ∧ ((∃ i q, T i ∧ ρ i = some q ∧ q.blk = p.blk) ∨ w.heap.size ≤ p.blk)) ∧
      Fr w.heap.size (fun b => ∃ i q, T i ∧ ρ i = some q ∧ q.own = true ∧ q.blk = b) w w' := by
    rintro ⟨r, hr, hK⟩
    obtain ⟨v, hv, hR⟩ := hr _ _ _ _ rfl h2
    refine ⟨v, hv, r, v, σ', ρ', rfl, hR, hK, h2.sim, h2.le, h2.n₀_le, h2.old, ?_, h2.fr⟩
    intro id p hp hi
    obtain ⟨k1, k2⟩ := h2.fresh id p hp hi
    refine ⟨k1, ?_⟩
    rcases k2 with ⟨i, q, h3, h4, h5, h6⟩ | k2
    · exact .inl ⟨i, q, h3, h4, h6⟩
    · exact .inr k2
  cases e with
  | ret => obtain ⟨v, hv, hR⟩ := fin h1; exact ⟨h2.defers, v, hv, hR⟩
  | normal => obtain ⟨v, hv, hR⟩ := fin h1; exact ⟨h2.defers, v, hv, hR⟩
  | exit id => exact h1
  | goto l => exact h1
  | panic ch => exact h1.elim
  | outgrown => exact h1.elim
end Go.Proofs.Ytemhpkfijoodkaa.Asl
