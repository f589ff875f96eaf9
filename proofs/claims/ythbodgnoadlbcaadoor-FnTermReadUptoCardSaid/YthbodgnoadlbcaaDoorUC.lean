/- A law's argument that is a row of bytes. -/
import Derived.Test.YthbodgnoadlbcaaDoorU1
import Derived.Test.YthbodgnoadlbcaaDoorDD
import Derived.OpenShut
namespace Go.Proofs.YthbodgnoadlbcaaDoor.Asl
open Go.RowKit
set_option linter.unusedVariables false
set_option linter.unusedSimpArgs false
section
variable {H : Type} {enc : TypeId × Value → H} {P : Program} {w : World} {sp : Nat → Bool} {held : Bool} {t e : TypeId}
theorem trod_u8 {fuel : Nat} {t : TypeId} {cs : List Value} {x : DataW H × List MemPlace} (ht : P.underlying t = some (.int .u8)) (h : DataW.trod enc P w 0 sp held fuel t cs = some x) : ∃ b : UInt8, cs = [.int .u8 (b.toNat : Int)] := by
  obtain ⟨n, rfl⟩ := trod_int ht h
  cases fuel with
  | zero => simp [DataW.trod] at h
  | succ fuel =>
    unfold DataW.trod at h
    rw [ht] at h
    simp only [] at h
    split at h
    · rename_i hw
      obtain ⟨b0, b1⟩ := bounds_u8 hw.2
      refine ⟨UInt8.ofNat n.toNat, ?_⟩
      have e : (UInt8.ofNat n.toNat).toNat = n.toNat := by
        rw [UInt8.toNat_ofNat']; omega
      rw [e, Int.toNat_of_nonneg b0]
    · cases h
theorem open_bytes_arg (ht : P.underlying t = some (.slice e)) (he : P.underlying e = some (.int .u8)) (hn : P.cellsOf e = 1) {v : Value} {d : DataW H} {q : List MemPlace} (hs : ∃ a len cap, v = .slice a len cap) (h : DataW.Trod enc P w 0 sp held t v d q) (hb : Rows.uptoBulk d ≤ 1048576) :
    ∃ g : List UInt8, g.length ≤ 1048576 ∧ ∀ σ ρ, Sim w.heap.size ρ σ w → OpenR w σ ρ v g := by
  obtain ⟨a, len, cap, rfl⟩ := hs
  obtain ⟨fuel, h⟩ := h
  exact open_flat (α := UInt8) (fun b => [.int .u8 (b.toNat : Int)]) (fun _ => rfl) (fun x c hc => by simp [Enc.enc] at hc; subst hc; rfl) ht hn (fun fuel cs x hx => by obtain ⟨b, rfl⟩ := trod_u8 he hx; exact ⟨b, rfl⟩) h hb
end
end Go.Proofs.YthbodgnoadlbcaaDoor.Asl
