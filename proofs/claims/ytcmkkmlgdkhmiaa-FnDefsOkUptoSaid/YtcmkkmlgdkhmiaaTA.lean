/- A list of terms that grows by append, each object reached once. -/
import Derived.Test.YtcmkkmlgdkhmiaaT17
import Derived.Test.YtcmkkmlgdkhmiaaGA
namespace Go.Proofs.Ytcmkkmlgdkhmiaa.Asl
open Go.RowKit
set_option linter.unusedVariables false
set_option linter.unusedSimpArgs false
attribute [local irreducible] WP WL andThen inBlock noGoto atEnd ACall DA DL PO Hold actB inB nodeOk
set_option maxHeartbeats 4000000
section
variable {E : Env} {ops : Array Oper} {l : List Oper} {Q : Exit → Slots → Store → Prop} {S : Slots} {σ σ₀ : Store} {d : Option Tmp} {ty : TypeId} {pos : String} {af : Array Edge} {x y : Operand}
theorem wc_appendTm (m : Nat) {t e : TypeId} {s u : AV} {xs : List Tm} {tm : Tm} {j : Nat} {agg : Bool} {bytes : Nat} {z : Value} (hx : S.ev x = some s) (hy : S.ev y = some (.sl j 0 1)) (ht : Un E.P t (.slice e)) (he : Ty E.P e agg 3 bytes z) (hz : z.cells.size = 3) (hb0 : 0 < bytes) (hb : bytes ≤ 4096)
    (h : RepD σ (fun i => σ₀.length ≤ i ∧ i < m) s xs) (hn : xs = [] → s = nilS) (hu : RepD σ (fun i => m ≤ i) u tm.ps) (hm0 : σ₀.length ≤ m) (h0 : σ₀.length ≤ σ.length) (hj : Has σ j ⟨.own, 3, [I tm.op, I tm.n, u], []⟩) (hone : One u) (hlen : xs.length < 4294967296) (hmay : ∀ id, σ₀.length ≤ id → E.may id) (hd : okd E d = true)
    (k : ∀ s' σ', App σ₀ σ s s' σ' → Mk σ σ₀ σ σ' → RepD σ' (fun i => σ₀.length ≤ i) s' (xs ++ [tm]) → One s' → WL E ops l Q (S.put d s') σ') :
    WL E ops (⟨d, .call ⟨.builtin .append, #[x, y], #[t, t]⟩, ty, pos, af, none⟩ :: l) Q S σ := by
  have hap : Appends E.P σ 3 1 (.sl j 0 1) [I tm.op, I tm.n, u] := Appends.row hj.get (.inr rfl) rfl rfl (by simpa [AV.one] using hone.eq)
  have hlim : ∀ n, n ≤ 4294967296 → n * bytes ≤ 140737488355328 := fun n hn => by
    have := Nat.mul_le_mul hn hb
    omega
  have hul := hu.lt
  generalize hs : s = s0 at h
  cases h with
  | nil =>
    have := hn rfl
    subst this
    refine wc_append_nil hx hy ht.eq he hz hb0 hap (by decide) (hlim _ (by simp)) hd fun i σ' hg hnw hh => ?_
    have hr : RepD σ' (fun i => σ₀.length ≤ i) (.sl i 0 ([tm] : List Tm).length) [tm] := by
      refine (RepD.single (id' := i) hul (fun q o _ ho => hg.keep q o ho) (fun q hq => by have := hnw.le; omega) hh).mono (fun _ _ _ h => h) fun q hq => ?_
      rcases hq with hq | rfl
      · omega
      · exact Nat.le_trans h0 hnw.le
    have ha : App σ₀ σ nilS (.sl i 0 1) σ' := ⟨fun q o _ ho => hg.keep q o ho, hg.len, .inr ⟨_, _, rfl, hnw.le⟩⟩
    exact k _ σ' ha ha.turned hr ⟨rfl⟩
  | @row _ id l0 _ ss Fs h1 h2 h3 h4 h5 h6 h7 h8 h9 =>
    subst hs
    have hrow : RepD σ (fun i => σ₀.length ≤ i ∧ i < m) (.sl id 0 xs.length) xs := .row ss Fs h1 h2 h3 h4 h5 h6 h7 h8 h9
    have hrl := hrow.lt
    refine wc_append hx hy ht.eq he hz hb0 h2 rfl h3 hap (hmay _ h1.1) (hlim _ (by omega)) hd fun i σ₁ σ' hu1 hg hnw hh => ?_
    have hkeep : ∀ (q : Nat) (o : Ob), q ≠ id → σ[q]? = some o → σ'[q]? = some o := fun q o hq ho => hg.keep q o (by rw [hu1.eq, List.getElem?_set_ne (Ne.symm hq)]; exact ho)
    have hr := RepD.snoc hrl h2 hul (fun q ha hb => by omega) (fun q o _ hq ho => hkeep q o hq ho) (fun q hq => by
      have := hnw.le
      rcases hq with hq | hq
      · have := hq.2; omega
      · have := hq.2; omega) hh hlen
    have hl2 : (xs ++ [tm]).length = xs.length + 1 := by simp
    rw [hl2] at hr
    have ha : App σ₀ σ (.sl id 0 xs.length) (.sl i 0 (xs.length + 1)) σ' := by
      refine ⟨fun q o hq ho => hkeep q o ?_ ho, ?_, .inr ⟨_, _, rfl, hnw.le⟩⟩
      · rcases hq with hq | hq
        · have := h1.1; omega
        · intro e; subst e; exact hq _ rfl
      · have := Upd.len hu1
        have := hg.len
        omega
    refine k _ σ' ha ha.turned (hr.mono (fun _ _ _ h => h) fun q hq => ?_) ⟨rfl⟩
    rcases hq with hq | hq | rfl
    · exact hq.1.1
    · have := hq.1; omega
    · exact Nat.le_trans h0 hnw.le
/-- A row of one term. -/
theorem wc_oneTm {t e : TypeId} {bytes : Nat} {z : Value} {a b : Int} {u : AV} (hx : S.ev x = some (.agg [I a, I b, u])) [hu : One u] (ht : Un E.P t (.slice e)) (he : Ty E.P e true 3 bytes z) (hz : z.cells.size = 3) (hz1 : ∀ v ∈ z.cells.toList, v.oneCell' = true) (hd : okd E d = true)
    (k : ∀ i σ', Grow σ σ' → New σ i → Has σ' i ⟨.own, 3, [I a, I b, u], []⟩ → WL E ops l Q (S.put d (.sl i 0 1)) σ') : WL E ops (⟨d, .buildSlice t 1 #[(0, x)], ty, pos, af, none⟩ :: l) Q S σ := by
  refine wc_buildSlice (rs := [(0, .agg [I a, I b, u])]) (cs := [I a, I b, u]) ht.eq he hz hz1 (by decide) (by simp [evParts, hx]) ?_ ?_ hd k
  · intro r hr
    simp only [List.mem_cons, List.not_mem_nil, or_false] at hr
    subst hr
    exact ⟨rfl, by simp, by simpa [AV.cells, AV.one] using hu.eq⟩
  · simp only [fillA, AV.cells]
    unfold splice
    simp
end
theorem rtsD_ge {σa σ : Store} {u : AV} {ps : List Tm} {m : Nat} (h : RTsD σa σ u ps) (hm : m ≤ σa.length) : RepD σ (fun i => m ≤ i) u ps :=
  h.rep.mono (fun _ _ _ h => h) (fun i hi => Nat.le_trans hm hi)
theorem RepD.at {σ₀ σ σ' : Store} {s : AV} {xs : List Tm} (h : RepD σ (fun i => σ₀.length ≤ i) s xs) (g : LeS σ σ') : RepD σ' (fun i => σ₀.length ≤ i ∧ i < σ.length) s xs :=
  h.lt.mono (fun i o _ ho => g.keep i o ho) (fun _ h => h)
end Go.Proofs.Ytcmkkmlgdkhmiaa.Asl
