/- More rules for regions that draw: cases, guards that hold nothing, one that makes something new, either of two. -/
import Derived.Test.YtemhpkfijoodkaaB3
namespace Go.Proofs.Ytemhpkfijoodkaa.Asl
open Go.RowKit Go.Proofs.YtemhpkfijoodkaaW.PrintLast
set_option linter.unusedVariables false
set_option linter.unusedSimpArgs false
section
variable {E : Env} {ops : Array Oper} {Q : Exit → Slots → Store → Prop} {S : Slots} {σ : Store} {d : Option Tmp} {ty : TypeId} {pos : String} {af : Array Edge} {n0 : Nat} {x y : Operand} {ds : List Nat} {fuel : Nat} {listed : Array Bool}

theorem da_less {S' : Slots} (h : DA E ops ds fuel listed Q n0 S σ) (hs : Sub S S') : DA E ops ds fuel listed Q n0 S' σ := fun a w ρ W0 hw => h a w ρ W0 (hw.less hs)
theorem da_caseP {t : Nat} {p : Prop} [i : Decidable p] (hb : S.get t = some (.lit (.bool (decide p)))) (h1 : p → DA E ops ds fuel listed Q n0 ((t, .lit (.bool true)) :: S) σ) (h0 : ¬ p → DA E ops ds fuel listed Q n0 ((t, .lit (.bool false)) :: S) σ) : DA E ops ds fuel listed Q n0 S σ :=
  da_case hb (fun h => h1 (by simpa using h)) (fun h => h0 (by simpa using h))
theorem da_caseNP {t : Nat} {p : Prop} [i : Decidable p] (hb : S.get t = some (.lit (.bool (!decide p)))) (h1 : ¬ p → DA E ops ds fuel listed Q n0 ((t, .lit (.bool true)) :: S) σ) (h0 : p → DA E ops ds fuel listed Q n0 ((t, .lit (.bool false)) :: S) σ) : DA E ops ds fuel listed Q n0 S σ :=
  da_case hb (fun h => h1 (by simpa using h)) (fun h => h0 (by simpa using h))
theorem da_caseEq {t : Nat} {a b : Int} (hb : S.get t = some (.lit (.bool (a == b)))) (h1 : a = b → DA E ops ds fuel listed Q n0 ((t, .lit (.bool true)) :: S) σ) (h0 : a ≠ b → DA E ops ds fuel listed Q n0 ((t, .lit (.bool false)) :: S) σ) : DA E ops ds fuel listed Q n0 S σ :=
  da_case hb (fun h => h1 (by simpa using h)) (fun h => h0 (by simpa using h))
theorem da_caseNe {t : Nat} {a b : Int} (hb : S.get t = some (.lit (.bool (a != b)))) (h1 : a ≠ b → DA E ops ds fuel listed Q n0 ((t, .lit (.bool true)) :: S) σ) (h0 : a = b → DA E ops ds fuel listed Q n0 ((t, .lit (.bool false)) :: S) σ) : DA E ops ds fuel listed Q n0 S σ :=
  da_case hb (fun h => h1 (by simpa using h)) (fun h => h0 (by simpa using h))
theorem da_caseNB {t : Nat} {b : Bool} (hb : S.get t = some (.lit (.bool (!b)))) (h1 : b = false → DA E ops ds fuel listed Q n0 ((t, .lit (.bool true)) :: S) σ) (h0 : b = true → DA E ops ds fuel listed Q n0 ((t, .lit (.bool false)) :: S) σ) : DA E ops ds fuel listed Q n0 S σ :=
  da_case hb (fun h => h1 (by simpa using h)) (fun h => h0 (by simpa using h))
/-- One whose guard holds nothing is not wanted. -/
theorem da_offU (i : Nat) {op : Op} {oj : Oper} {j : Nat} {dj : Tmp} {b : Bool} [hQ : NP Q] (ho : ops[i]? = some ⟨d, op, ty, pos, af, some (j, b)⟩) (hj : ops[j]? = some oj) (hdj : oj.dst = some dj) (hb : S.get dj = some (.lit undef)) (hd : okd E d = true) (hc : takeB .any ops ds listed (listed.setIfInBounds i true) i = true)
    (k : DA E ops ds fuel (listed.setIfInBounds i true) Q n0 (S.put d (.lit undef)) σ) : DA E ops ds (fuel + 1) listed Q n0 S σ := by
  intro a w ρ W0 hw hag hn hle
  obtain ⟨u', h3, h4⟩ := hw.slots dj _ hb
  have hu := R_lit h4; subst hu
  exact take_ _ ho rfl hc (hQ_of hQ.no) (.inr ⟨by simp [Region.wanted, yielded, hj, hdj, h3, undef], rfl⟩) hag rfl (k _ w ρ W0 (hw.put hd (.lit _)) hag hn hle)

/-- Some that can come up, each of which leaves what was there when the region began as it was. -/
theorem da_some (is : List Nat) (hr : Region.ready .any ops listed = is) (hne : is ≠ [])
    (h : ∀ i ∈ is, ∃ o, ops[i]? = some o ∧ ∀ (N : Nat) (B : Nat → Prop) (w₀ : World) (ρ₀ : Pl), WL ⟨E.P, E.base, E.n, fun id => False ∨ n0 ≤ id, N, B, w₀, ρ₀, σ.length⟩ ops [o] (fun e S' σ' => e = .normal ∧ σ.length ≤ σ'.length ∧ DA E ops ds fuel (listed.setIfInBounds i true) Q n0 S' σ') S σ) : DA E ops ds (fuel + 1) listed Q n0 S σ := by
  intro a w ρ W0 hw hag hn hle
  refine wpAnyLast_all hr (by simpa using hne) fun j hj => ?_
  obtain ⟨o, ho, h⟩ := h j hj
  have hw' : Ctx ⟨E.P, E.base, E.n, fun id => False ∨ n0 ≤ id, W0.heap.size, fun _ => False, w, ρ, σ.length⟩ S σ a w ρ := by
    refine { defers := hw.defers, size := hw.size, slots := hw.slots, sim := hw.sim, fr := Fr.refl _ _ _, le := Le.refl _, old := fun _ _ h _ => h, may := ?_, fresh := ?_, n₀_le := Nat.le_refl _, N_le := hag.size, later := fun _ h => .inr (Nat.le_trans hle.le h) }
    · intro id p hp _ hm
      simp only [false_or] at hm
      exact .inr (hle.fr id p hp hm).2
    · intro id p hp hm
      have := hw.sim.dom id p hp
      simp only at hm; omega
  refine wpOp_of_L (Q' := lift _ (fun e S' σ' => e = .normal ∧ σ.length ≤ σ'.length ∧ DA E ops ds fuel (listed.setIfInBounds j true) Q n0 S' σ')) ho (h _ _ _ _ a w ρ hw') ?_ ?_
  · rintro a' w' ⟨S', σ', ρ', ⟨_, hlen, hD⟩, hC⟩
    have hfr := hC.fr
    have hag' : Agree W0 w' := ⟨Nat.le_trans hag.size hfr.size, fun k hk => (hfr.block k hk (fun f => f)).trans (hag.block k hk)⟩
    refine ⟨fun _ _ => hag', ?_⟩
    have hlow : ∀ id p, ρ' id = some p → σ.length ≤ id → p.own = true ∧ W0.heap.size ≤ p.blk := fun id p hp hi => by
      obtain ⟨k1, k2⟩ := hC.fresh id p hp hi
      exact ⟨k1, k2.resolve_left (fun f => f)⟩
    have hCE : Ctx E S' σ' a' w' ρ' := by
      refine { defers := hC.defers, size := hC.size, slots := hC.slots, sim := hC.sim, fr := hw.fr.trans ⟨hfr.os, hfr.tape, hfr.output, hfr.size, fun k hk _ => hfr.block k (Nat.lt_of_lt_of_le hk hle.N) (fun f => f)⟩, le := hw.le.trans hC.le, old := ?_, may := ?_, fresh := ?_, n₀_le := Nat.le_trans hw.n₀_le hlen, N_le := Nat.le_trans hw.N_le hfr.size, later := hw.later }
      · intro id p hp hi
        exact hw.old id p (hC.old id p hp (Nat.lt_of_lt_of_le hi hw.n₀_le)) hi
      · intro id p hp h1 h2
        rcases Nat.lt_or_ge id σ.length with hi | hi
        · exact hw.may id p (hC.old id p hp hi) h1 h2
        · exact .inr (Nat.le_trans hle.N (hlow id p hp hi).2)
      · intro id p hp h1
        rcases Nat.lt_or_ge id σ.length with hi | hi
        · exact hw.fresh id p (hC.old id p hp hi) h1
        · exact ⟨(hlow id p hp hi).1, .inr (Nat.le_trans hle.N (hlow id p hp hi).2)⟩
    refine hD a' w' ρ' W0 hCE hag' ?_ ⟨Nat.le_trans hle.le hlen, ?_, hle.N⟩
    · intro id p hp hi
      exact hn id p (hC.old id p hp (Nat.lt_of_lt_of_le hi hle.le)) hi
    · intro id p hp hi
      rcases Nat.lt_or_ge id σ.length with h1 | h1
      · exact hle.fr id p (hC.old id p hp h1) hi
      · exact hlow id p hp h1
  · rintro e a' w' ⟨S', σ', ρ', ⟨h1, _⟩, _⟩ h2
    exact absurd h1 h2
end
section
variable {P : Program} {base n : Nat} {may : Nat → Prop} {M : Nat} {B : Nat → Prop} {w₀ : World} {ρ₀ : Pl} {n₀ : Nat} {ops : Array Oper} {Q : Exit → Slots → Store → Prop} {S : Slots} {σ : Store} {n0 : Nat} {ds : List Nat} {fuel : Nat} {listed : Array Bool}
theorem da_one (i : Nat) {d : Option Tmp} {op : Op} {ty : TypeId} {pos : String} {af : Array Edge} {g : Option (Nat × Bool)} (ho : ops[i]? = some ⟨d, op, ty, pos, af, g⟩) (hr : Region.ready .any ops listed = [i])
    (h : ∀ (N' : Nat) (B' : Nat → Prop) (w₀' : World) (ρ₀' : Pl), WL ⟨P, base, n, fun id => False ∨ n0 ≤ id, N', B', w₀', ρ₀', σ.length⟩ ops [⟨d, op, ty, pos, af, g⟩] (fun e S' σ' => e = .normal ∧ σ.length ≤ σ'.length ∧ DA ⟨P, base, n, may, M, B, w₀, ρ₀, n₀⟩ ops ds fuel (listed.setIfInBounds i true) Q n0 S' σ') S σ) : DA ⟨P, base, n, may, M, B, w₀, ρ₀, n₀⟩ ops ds (fuel + 1) listed Q n0 S σ :=
  da_some [i] hr (by simp) fun j hj => by
    obtain rfl : j = i := by simpa using hj
    exact ⟨_, ho, h⟩
theorem da_two (i j : Nat) {d d' : Option Tmp} {op op' : Op} {ty ty' : TypeId} {pos pos' : String} {af af' : Array Edge} {g g' : Option (Nat × Bool)} (ho : ops[i]? = some ⟨d, op, ty, pos, af, g⟩) (ho' : ops[j]? = some ⟨d', op', ty', pos', af', g'⟩) (hr : Region.ready .any ops listed = [i, j])
    (h : ∀ (N' : Nat) (B' : Nat → Prop) (w₀' : World) (ρ₀' : Pl), WL ⟨P, base, n, fun id => False ∨ n0 ≤ id, N', B', w₀', ρ₀', σ.length⟩ ops [⟨d, op, ty, pos, af, g⟩] (fun e S' σ' => e = .normal ∧ σ.length ≤ σ'.length ∧ DA ⟨P, base, n, may, M, B, w₀, ρ₀, n₀⟩ ops ds fuel (listed.setIfInBounds i true) Q n0 S' σ') S σ)
    (h' : ∀ (N' : Nat) (B' : Nat → Prop) (w₀' : World) (ρ₀' : Pl), WL ⟨P, base, n, fun id => False ∨ n0 ≤ id, N', B', w₀', ρ₀', σ.length⟩ ops [⟨d', op', ty', pos', af', g'⟩] (fun e S' σ' => e = .normal ∧ σ.length ≤ σ'.length ∧ DA ⟨P, base, n, may, M, B, w₀, ρ₀, n₀⟩ ops ds fuel (listed.setIfInBounds j true) Q n0 S' σ') S σ) : DA ⟨P, base, n, may, M, B, w₀, ρ₀, n₀⟩ ops ds (fuel + 1) listed Q n0 S σ :=
  da_some [i, j] hr (by simp) fun k hk => by
    rcases List.mem_cons.mp hk with rfl | hk
    · exact ⟨_, ho, h⟩
    · obtain rfl : k = j := by simpa using hk
      exact ⟨_, ho', h'⟩
end
theorem sub_eq {S S' : Slots} {t : Nat} {v v' : AV} (h : S'.get t = some v') (e : v' = v) (hs : Sub S S') : Sub ((t, v) :: S) S' := by subst e; exact sub_cons h hs
end Go.Proofs.Ytemhpkfijoodkaa.Asl
