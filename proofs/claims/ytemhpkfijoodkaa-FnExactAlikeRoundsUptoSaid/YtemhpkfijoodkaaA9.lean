/- The program logic's rules for a region that draws its order. -/
import Derived.Test.YtemhpkfijoodkaaA8
import Derived.Test.YtemhpkfijoodkaaWLast
namespace Go.Proofs.Ytemhpkfijoodkaa.Asl
open Go.RowKit Go.Proofs.YtemhpkfijoodkaaW.PrintLast
set_option linter.unusedVariables false
set_option linter.unusedSimpArgs false

/-- What is kept while a region draws: what is new since it began lies in blocks that are. -/
structure DH (E : Env) (n0 : Nat) (W0 : World) (σ : Store) (ρ : Pl) : Prop where
  le : n0 ≤ σ.length
  fr : ∀ id p, ρ id = some p → n0 ≤ id → p.own = true ∧ W0.heap.size ≤ p.blk
  N : E.N ≤ W0.heap.size
/-- Whatever order is picked from here on; what is listed has come up, or has been taken. -/
def DA (E : Env) (ops : Array Oper) (ds : List Nat) (fuel : Nat) (listed : Array Bool) (Q : Exit → Slots → Store → Prop) (n0 : Nat) (S : Slots) (σ : Store) : Prop :=
  ∀ a w ρ W0, Ctx E S σ a w ρ → Agree W0 w → (∀ id p, ρ id = some p → id < n0 → p.blk < W0.heap.size) → DH E n0 W0 σ ρ → wpAnyLast E.P .any ops (lift E Q) (fun w' => Agree W0 w') ds fuel listed a w

section
variable {E : Env} {ops : Array Oper} {ds : List Nat} {fuel n0 : Nat} {listed : Array Bool} {Q : Exit → Slots → Store → Prop} {S : Slots} {σ : Store}

theorem wp_region_drawn {id : Nat} (hm : E.P.follows .mixedOrders = true) (ds : List Nat) (h : DA E ops ds ops.size (Array.replicate ops.size false) Q σ.length S σ) : WP E (.region id ops true) Q S σ := by
  intro a w ρ hc
  exact wp_region_last hm (h a w.drew ρ w.drew hc.drew (Agree.refl _) (fun id p hp _ => hc.sim.size id p hp) ⟨Nat.le_refl _, fun id p hp h => by have := hc.sim.dom id p hp; omega, hc.N_le⟩)

theorem hQ_of {Q : Exit → Slots → Store → Prop} (hQ : ∀ ch S σ, ¬ Q (.panic ch) S σ) {d : Option Tmp} {v : Value} : ∀ c a w, lift E Q (.panic c) (a.put d v) w → lift E Q (.panic c) a w :=
  fun c a w ⟨S, σ, ρ, h, _⟩ => (hQ c S σ h).elim

/-- An operation that computes or reads is taken first. -/
theorem da_take (i : Nat) {o : Oper} {r : AV} (l' : Array Bool) (ho : ops[i]? = some o) (hg : o.guard = none) (hd : okd E o.dst = true) (hc : takeB .any ops ds listed l' i = true) (hQ : ∀ ch S σ, ¬ Q (.panic ch) S σ) (h : PO E S σ n0 o r)
    (k : DA E ops ds fuel l' Q n0 (S.put o.dst r) σ) : DA E ops ds (fuel + 1) listed Q n0 S σ := by
  intro a w ρ W0 hw hag hn hle
  obtain ⟨u, h1, h2⟩ := h a w ρ W0 hw hag hn
  exact take_ l' ho rfl hc (hQ_of hQ) (.inl ⟨by simp [Region.wanted, hg], fun w' hw' => h2 w' hw'⟩) hag rfl (k _ w ρ W0 (hw.put hd h1) hag hn hle)
/-- One whose guard is met. -/
theorem da_takeOn (i : Nat) {o oj : Oper} {r : AV} {j : Nat} {dj : Tmp} {b : Bool} (l' : Array Bool) (ho : ops[i]? = some o) (hg : o.guard = some (j, b)) (hj : ops[j]? = some oj) (hdj : oj.dst = some dj) (hb : S.get dj = some (.lit (.bool b))) (hd : okd E o.dst = true) (hc : takeB .any ops ds listed l' i = true) (hQ : ∀ ch S σ, ¬ Q (.panic ch) S σ) (h : PO E S σ n0 o r)
    (k : DA E ops ds fuel l' Q n0 (S.put o.dst r) σ) : DA E ops ds (fuel + 1) listed Q n0 S σ := by
  intro a w ρ W0 hw hag hn hle
  obtain ⟨u, h1, h2⟩ := h a w ρ W0 hw hag hn
  obtain ⟨u', h3, h4⟩ := hw.slots dj _ hb
  have hu := R_lit h4; subst hu
  exact take_ l' ho rfl hc (hQ_of hQ) (.inl ⟨by simp [Region.wanted, hg, yielded, hj, hdj, h3], fun w' hw' => h2 w' hw'⟩) hag rfl (k _ w ρ W0 (hw.put hd h1) hag hn hle)
/-- One whose guard is not met. -/
theorem da_takeOff (i : Nat) {o oj : Oper} {j : Nat} {dj : Tmp} {b b' : Bool} (l' : Array Bool) (ho : ops[i]? = some o) (hg : o.guard = some (j, b)) (hj : ops[j]? = some oj) (hdj : oj.dst = some dj) (hb : S.get dj = some (.lit (.bool b'))) (hne : b' ≠ b) (hd : okd E o.dst = true) (hc : takeB .any ops ds listed l' i = true) (hQ : ∀ ch S σ, ¬ Q (.panic ch) S σ)
    (k : DA E ops ds fuel l' Q n0 (S.put o.dst (.lit undef)) σ) : DA E ops ds (fuel + 1) listed Q n0 S σ := by
  intro a w ρ W0 hw hag hn hle
  obtain ⟨u', h3, h4⟩ := hw.slots dj _ hb
  have hu := R_lit h4; subst hu
  exact take_ l' ho rfl hc (hQ_of hQ) (.inr ⟨by simp [Region.wanted, hg, yielded, hj, hdj, h3, hne], rfl⟩) hag rfl (k _ w ρ W0 (hw.put hd (.lit _)) hag hn hle)

theorem da_done (hr : Region.ready .any ops listed = []) (h : Q .normal S σ) : DA E ops ds fuel listed Q n0 S σ :=
  fun a w ρ W0 hw hag hn hle => wpAnyLast_done hr ⟨S, σ, ρ, h, hw⟩ fuel

/-- An operation as a walk over it alone tells it. -/
theorem wpOp_of_L {P : Program} {Q Q' : Exit → Act → World → Prop} {K : Act → World → Prop} {i : Nat} {o : Oper} {a : Act} {w : World} (ho : ops[i]? = some o) (h : wpOpsL P ops Q' [o] a w) (hk : ∀ a w, Q' .normal a w → K a w) (hq : ∀ e a w, Q' e a w → e ≠ .normal → Q e a w) : wpOp P ops Q i K a w := by
  unfold wpOp
  simp only [ho]
  simp only [wpOpsL] at h
  by_cases hw : Region.wanted o (yielded ops a.tmps) = true
  · rw [if_pos hw] at h ⊢
    refine .inl ?_
    unfold Oper.wp at h ⊢
    generalize (execOp a.eval o).run P w = r at h ⊢
    revert h
    unfold Oper.upon
    split <;> intro h
    · exact hk _ _ h
    · exact hk _ _ h
    · exact hk _ _ h
    · refine Calls.mono h ?_
      intro e w' he
      cases e with
      | returned v => exact hk _ _ he
      | panicked c => exact hq _ _ _ he (by simp)
      | outgrown => obtain ⟨a₀, w₀, h₀⟩ := he; exact ⟨a₀, w₀, hq _ _ _ h₀ (by simp)⟩
    · exact Rows.mono h fun v w' hv => hk _ _ hv
    · exact hq _ _ _ h (by simp)
    · exact h
  · rw [if_neg hw] at h ⊢
    exact hk _ _ h

/-- The one operation that can come up, which leaves what was there as it was. -/
theorem da_step (i : Nat) {o : Oper} (l' : Array Bool) (ho : ops[i]? = some o) (hr : Region.ready .any ops listed = [i]) (hl' : listed.setIfInBounds i true = l')
    (h : ∀ E' : Env, E'.P = E.P → E'.base = E.base → E'.n = E.n → (∀ id, σ.length ≤ id → E'.may id) → WL E' ops [o] (fun e S' σ' => e = .normal ∧ σ.length ≤ σ'.length ∧ DA E ops ds fuel l' Q n0 S' σ') S σ) : DA E ops ds (fuel + 1) listed Q n0 S σ := by
  intro a w ρ W0 hw hag hn hle
  refine wpAnyLast_all hr (by simp) fun j hj => ?_
  obtain rfl : j = i := by simpa using hj
  let E' : Env := ⟨E.P, E.base, E.n, fun id => σ.length ≤ id, w.heap.size, fun _ => False, w, ρ, σ.length⟩
  have hw' : Ctx E' S σ a w ρ := by
    refine { defers := hw.defers, size := hw.size, slots := hw.slots, sim := hw.sim, fr := Fr.refl _ _ _, le := Le.refl _, old := fun _ _ h _ => h, may := ?_, fresh := ?_, n₀_le := Nat.le_refl _, N_le := Nat.le_refl _, later := fun _ h => h }
    · intro id p hp _ hm
      have := hw.sim.dom id p hp
      simp only [E'] at hm; omega
    · intro id p hp hm
      have := hw.sim.dom id p hp
      simp only [E'] at hm; omega
  refine wpOp_of_L (Q' := lift E' (fun e S' σ' => e = .normal ∧ σ.length ≤ σ'.length ∧ DA E ops ds fuel l' Q n0 S' σ')) ho (h E' rfl rfl rfl (fun _ h => h) a w ρ hw') ?_ ?_
  · rintro a' w' ⟨S', σ', ρ', ⟨_, hlen, hD⟩, hC⟩
    have hfr := hC.fr
    have hag' : Agree w w' := ⟨hfr.size, fun k hk => hfr.block k hk (fun f => f)⟩
    refine ⟨fun _ _ => hag.trans hag', ?_⟩
    subst hl'
    have hCE : Ctx E S' σ' a' w' ρ' := by
      have := hw.called (σ' := σ') (w' := w') (ρ' := ρ') (T := fun _ => False) (fun _ f => f.elim) hC.sim hC.le hlen hC.old (fun id p hp hi => by
        obtain ⟨k1, k2⟩ := hC.fresh id p hp hi
        exact ⟨k1, .inr (k2.resolve_left (fun f => f))⟩) (fun _ _ f => f.elim) ⟨hfr.os, hfr.tape, hfr.output, hfr.size, fun k hk _ => hfr.block k hk (fun f => f)⟩
      exact { this with defers := hC.defers, size := hC.size, slots := hC.slots }
    have hle' := hle.le
    refine hD a' w' ρ' W0 hCE (hag.trans hag') ?_ ⟨by omega, ?_, hle.N⟩
    · intro id p hp hi
      exact hn id p (hC.old id p hp (Nat.lt_of_lt_of_le hi hle')) hi
    · intro id p hp hi
      rcases Nat.lt_or_ge id σ.length with h1 | h1
      · exact hle.fr id p (hC.old id p hp h1) hi
      · obtain ⟨k1, k2⟩ := hC.fresh id p hp h1
        exact ⟨k1, Nat.le_trans hag.size (k2.resolve_left (fun f => f))⟩
  · rintro e a' w' ⟨S', σ', ρ', ⟨h1, _⟩, _⟩ h2
    exact absurd h1 h2

/-- Behind a write: what is left comes up one by one. -/
def DL (E : Env) (ops : Array Oper) (ds : List Nat) (fuel : Nat) (listed : Array Bool) (Q : Exit → Slots → Store → Prop) (S : Slots) (σ : Store) : Prop :=
  ∀ a w ρ (I : World → Prop), Ctx E S σ a w ρ → wpAnyLast E.P .any ops (lift E Q) I ds fuel listed a w
theorem DL.da (h : DL E ops ds fuel listed Q S σ) : DA E ops ds fuel listed Q n0 S σ := fun a w ρ W0 hw _ _ _ => h a w ρ _ hw
theorem dl_done (hr : Region.ready .any ops listed = []) (h : Q .normal S σ) : DL E ops ds fuel listed Q S σ :=
  fun a w ρ I hw => wpAnyLast_done hr ⟨S, σ, ρ, h, hw⟩ fuel
/-- One of the last, which may write. -/
theorem dl_step (i : Nat) {o : Oper} (l' : Array Bool) (ho : ops[i]? = some o) (hi : i ∈ ds) (hr : Region.ready .any ops listed = [i]) (hl' : listed.setIfInBounds i true = l')
    (h : WL E ops [o] (fun e S' σ' => e = .normal ∧ DL E ops ds fuel l' Q S' σ') S σ) : DL E ops ds (fuel + 1) listed Q S σ := by
  intro a w ρ I hw
  refine wpAnyLast_all hr (by simp) fun j hj => ?_
  obtain rfl : j = i := by simpa using hj
  refine wpOp_of_L (Q' := lift E (fun e S' σ' => e = .normal ∧ DL E ops ds fuel l' Q S' σ')) ho (h a w ρ hw) ?_ ?_
  · rintro a' w' ⟨S', σ', ρ', ⟨_, hD⟩, hC⟩
    subst hl'
    exact ⟨fun hn => absurd hi hn, hD a' w' ρ' I hC⟩
  · rintro e a' w' ⟨S', σ', ρ', ⟨h1, _⟩, _⟩ h2
    exact absurd h1 h2
end
end Go.Proofs.Ytemhpkfijoodkaa.Asl
