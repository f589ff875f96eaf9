/- Rows of whole numbers: alike, marked, what was marked held. -/
import Derived.Test.YtpkgcdpebomalaaDoorG5
import Derived.Test.YtpkgcdpebomalaaDoorGG
namespace Go.Proofs.YtpkgcdpebomalaaDoor.Asl
open Go.RowKit Go.Proofs.YtpkgcdpebomalaaDoorW.PrintLast
set_option linter.unusedVariables false
set_option linter.unusedSimpArgs false
attribute [local irreducible] WP WL andThen inBlock noGoto atEnd ACall DA DL PO Hold
set_option maxHeartbeats 4000000
/-- Numbers that count on. -/
def cntN (a : Nat) : Nat → List Nat
  | 0 => []
  | n + 1 => cntN a n ++ [a + n]
theorem cntN_len (a n : Nat) : (cntN a n).length = n := by induction n <;> simp_all [cntN]
theorem cntN_get (a : Nat) {n k : Nat} (h : k < n) : (cntN a n).getD k 0 = a + k := by
  induction n with
  | zero => omega
  | succ n ih =>
    simp only [cntN]
    rw [List.getD_eq_getElem?_getD]
    rcases Nat.lt_or_ge k n with h1 | h1
    · rw [List.getElem?_append_left (by rw [cntN_len]; exact h1), ← List.getD_eq_getElem?_getD]; exact ih h1
    · obtain rfl : k = n := by omega
      rw [List.getElem?_append_right (by rw [cntN_len]; omega), cntN_len]; simp
section
variable {base : Nat}
end
section
variable {α : Type} [Enc α] {E : Env} {ops : Array Oper} {l : List Oper} {Q : Exit → Slots → Store → Prop} {S : Slots} {σ : Store} {d : Option Tmp} {ty : TypeId} {pos : String} {af : Array Edge} {x y : Operand}
theorem OW.id_lt {σ₀ σ : Store} {u : AV} {g : List α} (h : OW σ₀ σ u g) {j n : Nat} (e : u = .sl j 0 n) : σ₀.length ≤ j ∧ j < σ.length ∧ Has σ j (Row g) := by
  rcases h.rep with ⟨_, h1⟩ | ⟨id, h1, h2, h3⟩
  · rw [e] at h1; cases h1
  · rw [e] at h1; cases h1; exact ⟨h2, h3.lt, h3⟩
/-- A call that marks a row that lies between two stores. -/
theorem wc_callMkW {args : Array Operand} {ats : Array TypeId} {f : FuncId} {rs caps : List AV} {s : AV} {r : Int} {g g' : List α} (σa σb : Store) (hf : S.ev x = some (.fn f caps)) (hc : Callable E.P f) (hargs : evs S args.toList = some rs)
    (hg : OW σa σ s g') (hb : OW σa σb s g') (h : ACall E.P E.base f (rs ++ caps) σ (fun j => ∃ n, s = .sl j 0 n) (RetMarkW σa σ s r g)) (hm : ∀ i, σa.length ≤ i → E.may i) (hd : okd E d = true)
    (k : ∀ σ', Mk σ σa σb σ' → OW σa σ' s g → WL E ops l Q (S.put d (I r)) σ') :
    WL E ops (⟨d, .call ⟨.value x, args, ats⟩, ty, pos, af, none⟩ :: l) Q S σ :=
  wl_call hf hc hargs h (fun i ⟨n, hi⟩ => by
    obtain ⟨h1, _, h2⟩ := hg.id_lt hi
    exact ⟨hm i h1, _, h2.get, .inl rfl⟩) hd fun r' σ' hK => by
    obtain ⟨e, h1, h3⟩ := hK
    subst e
    exact k σ' ⟨fun j o hj => h3 j o (fun n hn => by
      have h4 := (hg.id_lt hn).1
      have h5 := (hb.id_lt hn).2.1
      omega)⟩ h1
end
end Go.Proofs.YtpkgcdpebomalaaDoor.Asl
