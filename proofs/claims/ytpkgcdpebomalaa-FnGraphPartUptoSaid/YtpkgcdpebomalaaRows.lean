/-
  NARROWER THAN 'FOR EVERY INPUT', by the rows' own cells (each row's printed sentence says how): FnExactTermSteps: loops.
  DERIVED. THE GIVEN ROWS OF THIS SEAT. 5 by the template 'for every input the law returns true; each argument reads behind the call as it read before'; 0 by the template 'total and deterministic' (their statements: YtpkgcdpebomalaaTotals.lean).
  GIVEN WITH THE SEED: the statements are not yours to turn. If you find one false, say at which input.
  Laid BY PROGRAM, IN A SANDBOX (cutbox-rows.mjs): the forced cells as the released guide's own fill.sh prints them over the translation aa5aaed1f1460dbb… (all of the seat's roots in one cut). By AI agents, Wed Nov 11 2026. No macro, syntax, notation, axiom, sorry.
-/
import Derived.Test.YtpkgcdpebomalaaChecked
import GoSem.Claim
import GoSem.ClaimJoined
import GoSem.ClaimMapViews
import Derived.JoinedTies
import Derived.KernelRfl
namespace Go.Proofs.Ytpkgcdpebomalaa
/- THE CELL 'sum', in the pinned program and in every row, IS THE sha256 OF THE DUMP (.gsa) THAT YtpkgcdpebomalaaProg.lean LOADS. Nothing in Lean hashes anything: it is a label: what it is worth is what the hold of that sum in a sandbox is worth. -/
noncomputable def Try.pinned : Pinned := { name := "ytpkgcdpebomalaa", sum := "aa5aaed1f1460dbbdf1e2c0a4cc26ccbea9b131d25e3d569d4d26961d0187450", checked := Try.checked }
namespace Rows
def none {H : Type} : Left H := { results := [], args := [] }

/-- 'laws.FnExactTermSteps': WHATEVER THE INPUT: true; the input reads as it did. -/
def fnExactTermStepsSpec : ChangeSpec := { name := "fnExactTermSteps", fn := fun _ => fun
  | [d1, d2] => { results := [.lit (.bool true)], args := [d1, d2] }
  | _ => none }
def fnExactTermStepsRow : OpenClaim := { program := "ytpkgcdpebomalaa", sum := "aa5aaed1f1460dbbdf1e2c0a4cc26ccbea9b131d25e3d569d4d26961d0187450", func := "loop.example/mobilenames/laws.FnExactTermSteps", spec := "fnExactTermSteps", unfollowed := true, recurses := true, loops := true, apart := false }
def FnExactTermStepsSaid : Prop := fnExactTermStepsRow.holds Try.pinned (OpenSpec.ofChange fnExactTermStepsSpec)

/-- ITS FALSE NEIGHBOUR: 'it returns false'. Refute it at one input. -/
def fnExactTermStepsWrong : ChangeSpec := { name := "fnExactTermSteps", fn := fun _ => fun
  | [d1, d2] => { results := [.lit (.bool false)], args := [d1, d2] }
  | _ => none }
def FnExactTermStepsWrongFalsely : Prop := fnExactTermStepsRow.holds Try.pinned (OpenSpec.ofChange fnExactTermStepsWrong)

/-- 'laws.FnGraphPart': WHATEVER THE INPUT: true; the input reads as it did. -/
def fnGraphPartSpec : ChangeSpec := { name := "fnGraphPart", fn := fun _ => fun
  | [d] => { results := [.lit (.bool true)], args := [d] }
  | _ => none }
def fnGraphPartRow : OpenClaim := { program := "ytpkgcdpebomalaa", sum := "aa5aaed1f1460dbbdf1e2c0a4cc26ccbea9b131d25e3d569d4d26961d0187450", func := "loop.example/mobilenames/laws.FnGraphPart", spec := "fnGraphPart", unfollowed := true, recurses := true, apart := false }
def FnGraphPartSaid : Prop := fnGraphPartRow.holds Try.pinned (OpenSpec.ofChange fnGraphPartSpec)

/-- ITS FALSE NEIGHBOUR: 'it returns false'. Refute it at one input. -/
def fnGraphPartWrong : ChangeSpec := { name := "fnGraphPart", fn := fun _ => fun
  | [d] => { results := [.lit (.bool false)], args := [d] }
  | _ => none }
def FnGraphPartWrongFalsely : Prop := fnGraphPartRow.holds Try.pinned (OpenSpec.ofChange fnGraphPartWrong)

/-- 'laws.FnAlikeClasses': WHATEVER THE INPUT: true; the input reads as it did. -/
def fnAlikeClassesSpec : ChangeSpec := { name := "fnAlikeClasses", fn := fun _ => fun
  | [d] => { results := [.lit (.bool true)], args := [d] }
  | _ => none }
def fnAlikeClassesRow : OpenClaim := { program := "ytpkgcdpebomalaa", sum := "aa5aaed1f1460dbbdf1e2c0a4cc26ccbea9b131d25e3d569d4d26961d0187450", func := "loop.example/mobilenames/laws.FnAlikeClasses", spec := "fnAlikeClasses", unfollowed := true, recurses := true, apart := false }
def FnAlikeClassesSaid : Prop := fnAlikeClassesRow.holds Try.pinned (OpenSpec.ofChange fnAlikeClassesSpec)

/-- ITS FALSE NEIGHBOUR: 'it returns false'. Refute it at one input. -/
def fnAlikeClassesWrong : ChangeSpec := { name := "fnAlikeClasses", fn := fun _ => fun
  | [d] => { results := [.lit (.bool false)], args := [d] }
  | _ => none }
def FnAlikeClassesWrongFalsely : Prop := fnAlikeClassesRow.holds Try.pinned (OpenSpec.ofChange fnAlikeClassesWrong)

/-- 'laws.FnAlikeRelation': WHATEVER THE INPUT: true; the input reads as it did. -/
def fnAlikeRelationSpec : ChangeSpec := { name := "fnAlikeRelation", fn := fun _ => fun
  | [d] => { results := [.lit (.bool true)], args := [d] }
  | _ => none }
def fnAlikeRelationRow : OpenClaim := { program := "ytpkgcdpebomalaa", sum := "aa5aaed1f1460dbbdf1e2c0a4cc26ccbea9b131d25e3d569d4d26961d0187450", func := "loop.example/mobilenames/laws.FnAlikeRelation", spec := "fnAlikeRelation", unfollowed := true, recurses := true, apart := false }
def FnAlikeRelationSaid : Prop := fnAlikeRelationRow.holds Try.pinned (OpenSpec.ofChange fnAlikeRelationSpec)

/-- ITS FALSE NEIGHBOUR: 'it returns false'. Refute it at one input. -/
def fnAlikeRelationWrong : ChangeSpec := { name := "fnAlikeRelation", fn := fun _ => fun
  | [d] => { results := [.lit (.bool false)], args := [d] }
  | _ => none }
def FnAlikeRelationWrongFalsely : Prop := fnAlikeRelationRow.holds Try.pinned (OpenSpec.ofChange fnAlikeRelationWrong)

/-- 'laws.FnGraphBoth': WHATEVER THE INPUT: true; the input reads as it did. -/
def fnGraphBothSpec : ChangeSpec := { name := "fnGraphBoth", fn := fun _ => fun
  | [d] => { results := [.lit (.bool true)], args := [d] }
  | _ => none }
def fnGraphBothRow : OpenClaim := { program := "ytpkgcdpebomalaa", sum := "aa5aaed1f1460dbbdf1e2c0a4cc26ccbea9b131d25e3d569d4d26961d0187450", func := "loop.example/mobilenames/laws.FnGraphBoth", spec := "fnGraphBoth", unfollowed := true, recurses := true, apart := false }
def FnGraphBothSaid : Prop := fnGraphBothRow.holds Try.pinned (OpenSpec.ofChange fnGraphBothSpec)

/-- ITS FALSE NEIGHBOUR: 'it returns false'. Refute it at one input. -/
def fnGraphBothWrong : ChangeSpec := { name := "fnGraphBoth", fn := fun _ => fun
  | [d] => { results := [.lit (.bool false)], args := [d] }
  | _ => none }
def FnGraphBothWrongFalsely : Prop := fnGraphBothRow.holds Try.pinned (OpenSpec.ofChange fnGraphBothWrong)

/- THE SECOND FORM. 'bulk': how many values and letters a reading holds, each counted each time it is reached (what is shared counts as often as it is met; a slice's spare places count too). A statement '..UptoSaid' is the law's where the arguments, and the package variables that the reading takes, are together of bulk at most 1048576: NARROWER than '..Said'. Prove '..Said' where nothing that the law and all that it calls make is longer than what came in: it says more and counts as full. Else prove '..UptoSaid'. A law counts once. -/
mutual
def uptoBulk {H : Type} : DataW H → Nat
  | .lit (.string bytes) => bytes.length + 1
  | .lit _ => 1
  | .nil => 1
  | .ptr d => uptoBulk d + 1
  | .slice elems spare => uptoBulkAll elems + uptoBulkAll spare + 1
  | .agg parts => uptoBulkAll parts + 1
  | .iface _ d => uptoBulk d + 1
  | .map entries => uptoBulkEntries entries + 1
  | .held _ => 1
def uptoBulkAll {H : Type} : List (DataW H) → Nat
  | [] => 0
  | d :: r => uptoBulk d + uptoBulkAll r
def uptoBulkEntries {H : Type} : List (Lit × DataW H) → Nat
  | [] => 0
  | x :: r => uptoBulkEntry x + uptoBulkEntries r
def uptoBulkEntry {H : Type} : Lit × DataW H → Nat
  | (.string bytes, d) => bytes.length + uptoBulk d + 1
  | (_, d) => uptoBulk d + 1
 end
def uptoSmall : (H : Type) → List (DataW H) → Bool := fun _ ds => decide (uptoBulkAll ds ≤ 1048576)
def OpenSpec.upto (s : _root_.Go.ChangeSpec) : _root_.Go.OpenSpec := { _root_.Go.OpenSpec.ofChange s with cond := some uptoSmall }

/-- 'laws.FnExactTermSteps', WHERE WHAT IT READS IS OF BULK AT MOST 1048576: true; the input reads as it did. -/
def fnExactTermStepsUptoRow : OpenClaim := { program := "ytpkgcdpebomalaa", sum := "aa5aaed1f1460dbbdf1e2c0a4cc26ccbea9b131d25e3d569d4d26961d0187450", func := "loop.example/mobilenames/laws.FnExactTermSteps", spec := "fnExactTermSteps", unfollowed := true, recurses := true, loops := true, apart := false, narrowed := true }
def FnExactTermStepsUptoSaid : Prop := fnExactTermStepsUptoRow.holds Try.pinned (OpenSpec.upto fnExactTermStepsSpec)

/-- 'laws.FnGraphPart', WHERE WHAT IT READS IS OF BULK AT MOST 1048576: true; the input reads as it did. -/
def fnGraphPartUptoRow : OpenClaim := { program := "ytpkgcdpebomalaa", sum := "aa5aaed1f1460dbbdf1e2c0a4cc26ccbea9b131d25e3d569d4d26961d0187450", func := "loop.example/mobilenames/laws.FnGraphPart", spec := "fnGraphPart", unfollowed := true, recurses := true, apart := false, narrowed := true }
def FnGraphPartUptoSaid : Prop := fnGraphPartUptoRow.holds Try.pinned (OpenSpec.upto fnGraphPartSpec)

/-- 'laws.FnAlikeClasses', WHERE WHAT IT READS IS OF BULK AT MOST 1048576: true; the input reads as it did. -/
def fnAlikeClassesUptoRow : OpenClaim := { program := "ytpkgcdpebomalaa", sum := "aa5aaed1f1460dbbdf1e2c0a4cc26ccbea9b131d25e3d569d4d26961d0187450", func := "loop.example/mobilenames/laws.FnAlikeClasses", spec := "fnAlikeClasses", unfollowed := true, recurses := true, apart := false, narrowed := true }
def FnAlikeClassesUptoSaid : Prop := fnAlikeClassesUptoRow.holds Try.pinned (OpenSpec.upto fnAlikeClassesSpec)

/-- 'laws.FnAlikeRelation', WHERE WHAT IT READS IS OF BULK AT MOST 1048576: true; the input reads as it did. -/
def fnAlikeRelationUptoRow : OpenClaim := { program := "ytpkgcdpebomalaa", sum := "aa5aaed1f1460dbbdf1e2c0a4cc26ccbea9b131d25e3d569d4d26961d0187450", func := "loop.example/mobilenames/laws.FnAlikeRelation", spec := "fnAlikeRelation", unfollowed := true, recurses := true, apart := false, narrowed := true }
def FnAlikeRelationUptoSaid : Prop := fnAlikeRelationUptoRow.holds Try.pinned (OpenSpec.upto fnAlikeRelationSpec)

/-- 'laws.FnGraphBoth', WHERE WHAT IT READS IS OF BULK AT MOST 1048576: true; the input reads as it did. -/
def fnGraphBothUptoRow : OpenClaim := { program := "ytpkgcdpebomalaa", sum := "aa5aaed1f1460dbbdf1e2c0a4cc26ccbea9b131d25e3d569d4d26961d0187450", func := "loop.example/mobilenames/laws.FnGraphBoth", spec := "fnGraphBoth", unfollowed := true, recurses := true, apart := false, narrowed := true }
def FnGraphBothUptoSaid : Prop := fnGraphBothUptoRow.holds Try.pinned (OpenSpec.upto fnGraphBothSpec)

end Rows
end Go.Proofs.Ytpkgcdpebomalaa
