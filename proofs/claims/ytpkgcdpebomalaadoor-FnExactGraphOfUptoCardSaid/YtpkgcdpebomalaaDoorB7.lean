/- Operations that compute without the store, beside writes. -/
import Derived.Test.YtpkgcdpebomalaaDoorB6
namespace Go.Proofs.YtpkgcdpebomalaaDoor.Asl
open Go.RowKit Go.Proofs.YtpkgcdpebomalaaDoorW.PrintLast
set_option linter.unusedVariables false
section
variable {E : Env} {ops : Array Oper} {ds : List Nat} {fuel n0 : Nat} {listed : Array Bool} {Q : Exit → Slots → Store → Prop} {S : Slots} {σ : Store} {d : Option Tmp} {ty : TypeId} {pos : String} {af : Array Edge} {x : Operand}
theorem da_extract (i : Nat) {j : Nat} {rs : List AV} {r : AV} [hQ : NP Q] (ho : ops[i]? = some ⟨d, .extract x j, ty, pos, af, none⟩) (hd : okd E d = true) (hc : anyB .any ops listed (listed.setIfInBounds i true) i = true) (hx : S.ev x = some (.tup rs)) (hr : rs[j]? = some r)
    (k : DA E ops ds fuel (listed.setIfInBounds i true) Q n0 (S.put d r) σ) : DA E ops ds (fuel + 1) listed Q n0 S σ := by
  intro a w ρ W0 hw hag hn hle
  have e := hw.ev hx
  generalize hv : a.eval x = v at e
  cases e with
  | tup h =>
    obtain ⟨u, h1, h2⟩ := h.get j r hr
    exact pure_ _ ho rfl hc (hQ_of hQ.no) (.inl ⟨by simp [Region.wanted], fun w' => by simp [execOp, hv, Instr.extract, h1]⟩) rfl (k _ w ρ W0 (hw.put hd h2) hag hn hle)
end
end Go.Proofs.YtpkgcdpebomalaaDoor.Asl
