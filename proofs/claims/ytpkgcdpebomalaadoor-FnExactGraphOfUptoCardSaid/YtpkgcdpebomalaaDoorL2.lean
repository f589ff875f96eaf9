/- The laws FnExactTermFits and FnExactDefsOk: walks. -/
import Derived.Test.YtpkgcdpebomalaaDoorTT
namespace Go.Proofs.YtpkgcdpebomalaaDoor.Asl
open Go.RowKit
set_option linter.unusedVariables false
attribute [local irreducible] WP WL andThen inBlock noGoto atEnd ACall DA PO Hold actB inB nodeOk
set_option maxHeartbeats 4000000

theorem c_szTermS {base : Nat} (ps : List Tm) (σ : Store) (s : AV) (left : Int) [hs : RTs σ s ps] : ACall Tryd.prog base F_laws_szTermS [s, I left] σ (fun _ => False) (RetInt σ) := c_szTermS_of (fun p _ => c_szTerm p) σ s left
theorem c_toTermS {base : Nat} (ps : List Tm) (σ : Store) (s : AV) [hs : RTs σ s ps] : ACall Tryd.prog base F_laws_toTermS [s] σ (fun _ => False) (RetTms σ ps) := c_toTermS_of (fun p _ => c_toTerm p) σ s
theorem c_eqTermS {base : Nat} (ps ps' : List Tm) (σ : Store) (s s' : AV) [hs : RTs σ s ps] [hs' : RTs σ s' ps'] : ACall Tryd.prog base F_laws_eqTermS [s, s'] σ (fun _ => False) (Ret σ (Bo (eqB ps ps'))) := c_eqTermS_of (fun p _ => c_eqTerm p) σ s s'
theorem c_eqTermS_self {base : Nat} (ps : List Tm) (σ : Store) (s s' : AV) [hs : RTs σ s ps] [hs' : RTs σ s' ps] : ACall Tryd.prog base F_laws_eqTermS [s, s'] σ (fun _ => False) (Ret σ (Bo true)) := by
  have := c_eqTermS (base := base) ps ps σ s s'
  rwa [eqB_self] at this
end Go.Proofs.YtpkgcdpebomalaaDoor.Asl
