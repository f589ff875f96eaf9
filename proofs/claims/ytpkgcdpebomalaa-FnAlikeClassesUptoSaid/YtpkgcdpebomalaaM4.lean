/- Rows pushed into a list of rows that lie apart from it. -/
import Derived.Test.YtpkgcdpebomalaaGG
namespace Go.Proofs.Ytpkgcdpebomalaa.Asl
open Go.RowKit
set_option linter.unusedVariables false
set_option linter.unusedSimpArgs false
set_option maxHeartbeats 1000000
/-- A list of rows, and its rows, in objects new since σb; the rows lie apart from the list. -/
structure PR {α : Type} [Enc α] (σb σ : Store) (u : AV) (us : List AV) (g : List (List α)) : Prop where
  ow : OW σb σ u us
  ors : ORs σb σ us g
  ap : ∀ j n m, u = .sl j 0 n → AV.sl j 0 m ∉ us
theorem PR.keep {α : Type} [Enc α] {σb σ σ' : Store} {u : AV} {us : List AV} {g : List (List α)} (h : PR σb σ u us g) (k : LeS σ σ') : PR σb σ' u us g :=
  ⟨h.ow.keep fun j o _ _ ho => k.keep j o ho, h.ors.keep fun j o _ _ ho => k.keep j o ho, h.ap⟩
theorem ors_lt {α : Type} [Enc α] {σb σ : Store} {us : List AV} {g : List (List α)} (h : ORs σb σ us g) {j m : Nat} (hm : AV.sl j 0 m ∈ us) : j < σ.length := by
  obtain ⟨k, hk, ek⟩ := List.getElem_of_mem hm
  have hr := h.row k
  rw [getD_lt hk, ek] at hr
  rcases hr.rep with ⟨_, e⟩ | ⟨i, e, _, h1⟩
  · cases e
  · cases e; exact h1.lt
theorem ow_lt {α : Type} [Enc α] {σb σ : Store} {u : AV} {l : List α} (h : OW σb σ u l) {j n : Nat} (e : u = .sl j 0 n) : j < σ.length ∧ σb.length ≤ j := by
  rcases h.rep with ⟨_, q⟩ | ⟨i, q, h0, h1⟩
  · rw [e] at q; cases q
  · rw [e] at q; cases q; exact ⟨h1.lt, h0⟩
theorem PR.push {α : Type} [Enc α] {σb σ5 σ1 σ2 : Store} {u u' v : AV} {us : List AV} {gs : List (List α)} {l : List α} (h : PR σb σ5 u us gs) (hl : σb.length ≤ σ5.length) (hv : OW σ5 σ1 v l) (g1 : LeS σ5 σ1) (happ : App σb σ1 u u' σ2) (how : OW σb σ2 u' (us ++ [v])) : PR σb σ2 u' (us ++ [v]) (gs ++ [l]) := by
  have h1 := h.keep g1
  have h3 := happ.ors h1.ors h.ap
  have h4 := happ.ow hv (fun j n m e q => by have := (ow_lt h.ow e).1; have := (ow_lt hv q).2; omega)
  refine ⟨how, h.ors.snoc h3 hl h4, fun j n m e hm => ?_⟩
  rcases happ.fresh with q | ⟨i, k, q, hi⟩
  · rw [q] at e
    rcases List.mem_append.mp hm with hm | hm
    · exact h.ap j n m e hm
    · simp only [List.mem_singleton] at hm
      have := (ow_lt h.ow e).1
      have := (ow_lt hv hm.symm).2
      omega
  · rw [q] at e; cases e
    rcases List.mem_append.mp hm with hm | hm
    · have := ors_lt h1.ors hm; omega
    · simp only [List.mem_singleton] at hm
      have := (ow_lt hv hm.symm).1; omega
end Go.Proofs.Ytpkgcdpebomalaa.Asl
