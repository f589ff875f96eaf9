/- Terms marked: what is new since two stores may turn. -/
import Derived.Test.YtcmkkmlgdkhmiaaT11
import Derived.Test.YtcmkkmlgdkhmiaaBB
namespace Go.Proofs.Ytcmkkmlgdkhmiaa.Asl
open Go.RowKit
set_option linter.unusedVariables false
attribute [local irreducible] WP WL andThen inBlock noGoto atEnd ACall DA DL PO Hold actB inB nodeOk
set_option maxHeartbeats 4000000

instance instRTsMk {σ σa σb σ' : Store} {s : AV} {ts : List Tm} [m : Mk σ σa σb σ'] [a : LeS σa σ] [h : RTs σa s ts] : RTs σ' s ts :=
  ⟨h.rep.mono (fun j o _ ho => m.keep j o (.inl (Has.lt ⟨ho⟩)) (a.keep j o ho)) (fun _ _ => trivial)⟩
instance instRTsNMk {σc σ σa σb σ' : Store} {s : AV} {ts : List Tm} [m : Mk σ σa σb σ'] [a : LeS σb σc] [h : RTsN σc σ s ts] : RTsN σc σ' s ts :=
  ⟨h.rep.mono (fun j o hj ho => m.keep j o (.inr (Nat.le_trans a.len hj)) ho) (fun _ h => h)⟩

theorem RTs.les {σ σ' : Store} {s : AV} {ts : List Tm} (h : RTs σ s ts) (g : LeS σ σ') : RTs σ' s ts := ⟨h.rep.mono (fun i o _ => g.keep i o) (fun _ _ => trivial)⟩
end Go.Proofs.Ytcmkkmlgdkhmiaa.Asl
