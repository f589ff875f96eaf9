/- A law's argument that is a table of truths. -/
import Derived.Test.YtemhpkfijoodkaaU1
namespace Go.Proofs.Ytemhpkfijoodkaa.Asl
open Go.RowKit
set_option linter.unusedVariables false
set_option linter.unusedSimpArgs false
section
variable {H : Type} {enc : TypeId × Value → H} {P : Program} {w : World} {sp : Nat → Bool} {held : Bool} {t e : TypeId}
theorem open_boolss_arg {t2 : TypeId} (ht2 : P.underlying t2 = some (.slice t)) (ht : P.underlying t = some (.slice e)) (hbl : P.underlying e = some .bool) (hn2 : P.cellsOf t = 1) (hn : P.cellsOf e = 1) {v : Value} {d : DataW H} {q : List MemPlace} (hs : ∃ a len cap, v = .slice a len cap) (h : DataW.Trod enc P w 0 sp held t2 v d q) (hb : Rows.uptoBulk d ≤ 1048576) :
    ∃ g : List (List Bool), (g.length ≤ 1048576 ∧ ∀ l ∈ g, l.length ≤ 1048576) ∧ ∀ σ ρ, Sim w.heap.size ρ σ w → OpenRR w σ ρ v g := by
  obtain ⟨a, len, cap, rfl⟩ := hs
  obtain ⟨fuel, h⟩ := h
  exact open_rr (α := Bool) (fun b => [.bool b]) (fun _ => rfl) (fun x c hc => by simp [Enc.enc] at hc; subst hc; rfl) ht2 hn2 ht hn (fun fuel cs x hx => by obtain ⟨b, rfl⟩ := trod_bool hbl hx; exact ⟨b, rfl⟩) h hb
end
end Go.Proofs.Ytemhpkfijoodkaa.Asl
