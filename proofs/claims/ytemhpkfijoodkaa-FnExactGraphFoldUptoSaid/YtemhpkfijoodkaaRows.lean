/-
  No cell of these rows narrows 'for every input' (looked for: loops, veiled, ifaces, maps, wideKeys, modest, calm, conditions, laid).
  DERIVED. THE GIVEN ROWS OF THIS SEAT. 9 by the template 'for every input the law returns true; each argument reads behind the call as it read before'; 0 by the template 'total and deterministic' (their statements: YtemhpkfijoodkaaTotals.lean).
  GIVEN WITH THE SEED: the statements are not yours to turn. If you find one false, say at which input.
  Laid BY PROGRAM, IN A SANDBOX (cutbox-rows.mjs): the forced cells as the released guide's own fill.sh prints them over the translation a3e5a46838eb371c… (all of the seat's roots in one cut). By AI agents, Wed Nov 11 2026. No macro, syntax, notation, axiom, sorry.
-/
import Derived.Test.YtemhpkfijoodkaaChecked
import GoSem.Claim
import GoSem.ClaimJoined
import GoSem.ClaimMapViews
import Derived.JoinedTies
import Derived.KernelRfl
namespace Go.Proofs.Ytemhpkfijoodkaa
/- THE CELL 'sum', in the pinned program and in every row, IS THE sha256 OF THE DUMP (.gsa) THAT YtemhpkfijoodkaaProg.lean LOADS. Nothing in Lean hashes anything: it is a label: what it is worth is what the hold of that sum in a sandbox is worth. -/
noncomputable def Try.pinned : Pinned := { name := "ytemhpkfijoodkaa", sum := "a3e5a46838eb371cefc8880e0cd33bb9202b24d40a0d2b4736c70a54cdb16516", checked := Try.checked }
namespace Rows
def none {H : Type} : Left H := { results := [], args := [] }

/-- 'laws.FnExactGraphOk': WHATEVER THE INPUT: true; the input reads as it did. -/
def fnExactGraphOkSpec : ChangeSpec := { name := "fnExactGraphOk", fn := fun _ => fun
  | [d] => { results := [.lit (.bool true)], args := [d] }
  | _ => none }
def fnExactGraphOkRow : OpenClaim := { program := "ytemhpkfijoodkaa", sum := "a3e5a46838eb371cefc8880e0cd33bb9202b24d40a0d2b4736c70a54cdb16516", func := "loop.example/mobilenames/laws.FnExactGraphOk", spec := "fnExactGraphOk", apart := false }
def FnExactGraphOkSaid : Prop := fnExactGraphOkRow.holds Try.pinned (OpenSpec.ofChange fnExactGraphOkSpec)

/-- ITS FALSE NEIGHBOUR: 'it returns false'. Refute it at one input. -/
def fnExactGraphOkWrong : ChangeSpec := { name := "fnExactGraphOk", fn := fun _ => fun
  | [d] => { results := [.lit (.bool false)], args := [d] }
  | _ => none }
def FnExactGraphOkWrongFalsely : Prop := fnExactGraphOkRow.holds Try.pinned (OpenSpec.ofChange fnExactGraphOkWrong)

/-- 'laws.FnExactGraphBoth': WHATEVER THE INPUT: true; the input reads as it did. -/
def fnExactGraphBothSpec : ChangeSpec := { name := "fnExactGraphBoth", fn := fun _ => fun
  | [d1, d2] => { results := [.lit (.bool true)], args := [d1, d2] }
  | _ => none }
def fnExactGraphBothRow : OpenClaim := { program := "ytemhpkfijoodkaa", sum := "a3e5a46838eb371cefc8880e0cd33bb9202b24d40a0d2b4736c70a54cdb16516", func := "loop.example/mobilenames/laws.FnExactGraphBoth", spec := "fnExactGraphBoth", apart := false }
def FnExactGraphBothSaid : Prop := fnExactGraphBothRow.holds Try.pinned (OpenSpec.ofChange fnExactGraphBothSpec)

/-- ITS FALSE NEIGHBOUR: 'it returns false'. Refute it at one input. -/
def fnExactGraphBothWrong : ChangeSpec := { name := "fnExactGraphBoth", fn := fun _ => fun
  | [d1, d2] => { results := [.lit (.bool false)], args := [d1, d2] }
  | _ => none }
def FnExactGraphBothWrongFalsely : Prop := fnExactGraphBothRow.holds Try.pinned (OpenSpec.ofChange fnExactGraphBothWrong)

/-- 'laws.FnExactGraphLoops': WHATEVER THE INPUT: true; the input reads as it did. -/
def fnExactGraphLoopsSpec : ChangeSpec := { name := "fnExactGraphLoops", fn := fun _ => fun
  | [d] => { results := [.lit (.bool true)], args := [d] }
  | _ => none }
def fnExactGraphLoopsRow : OpenClaim := { program := "ytemhpkfijoodkaa", sum := "a3e5a46838eb371cefc8880e0cd33bb9202b24d40a0d2b4736c70a54cdb16516", func := "loop.example/mobilenames/laws.FnExactGraphLoops", spec := "fnExactGraphLoops", unfollowed := true, recurses := true, apart := false }
def FnExactGraphLoopsSaid : Prop := fnExactGraphLoopsRow.holds Try.pinned (OpenSpec.ofChange fnExactGraphLoopsSpec)

/-- ITS FALSE NEIGHBOUR: 'it returns false'. Refute it at one input. -/
def fnExactGraphLoopsWrong : ChangeSpec := { name := "fnExactGraphLoops", fn := fun _ => fun
  | [d] => { results := [.lit (.bool false)], args := [d] }
  | _ => none }
def FnExactGraphLoopsWrongFalsely : Prop := fnExactGraphLoopsRow.holds Try.pinned (OpenSpec.ofChange fnExactGraphLoopsWrong)

/-- 'laws.FnExactAlikeRelation': WHATEVER THE INPUT: true; the input reads as it did. -/
def fnExactAlikeRelationSpec : ChangeSpec := { name := "fnExactAlikeRelation", fn := fun _ => fun
  | [d1, d2] => { results := [.lit (.bool true)], args := [d1, d2] }
  | _ => none }
def fnExactAlikeRelationRow : OpenClaim := { program := "ytemhpkfijoodkaa", sum := "a3e5a46838eb371cefc8880e0cd33bb9202b24d40a0d2b4736c70a54cdb16516", func := "loop.example/mobilenames/laws.FnExactAlikeRelation", spec := "fnExactAlikeRelation", unfollowed := true, recurses := true, apart := false }
def FnExactAlikeRelationSaid : Prop := fnExactAlikeRelationRow.holds Try.pinned (OpenSpec.ofChange fnExactAlikeRelationSpec)

/-- ITS FALSE NEIGHBOUR: 'it returns false'. Refute it at one input. -/
def fnExactAlikeRelationWrong : ChangeSpec := { name := "fnExactAlikeRelation", fn := fun _ => fun
  | [d1, d2] => { results := [.lit (.bool false)], args := [d1, d2] }
  | _ => none }
def FnExactAlikeRelationWrongFalsely : Prop := fnExactAlikeRelationRow.holds Try.pinned (OpenSpec.ofChange fnExactAlikeRelationWrong)

/-- 'laws.FnExactGraphReach': WHATEVER THE INPUT: true; the input reads as it did. -/
def fnExactGraphReachSpec : ChangeSpec := { name := "fnExactGraphReach", fn := fun _ => fun
  | [d] => { results := [.lit (.bool true)], args := [d] }
  | _ => none }
def fnExactGraphReachRow : OpenClaim := { program := "ytemhpkfijoodkaa", sum := "a3e5a46838eb371cefc8880e0cd33bb9202b24d40a0d2b4736c70a54cdb16516", func := "loop.example/mobilenames/laws.FnExactGraphReach", spec := "fnExactGraphReach", recurses := true, apart := false }
def FnExactGraphReachSaid : Prop := fnExactGraphReachRow.holds Try.pinned (OpenSpec.ofChange fnExactGraphReachSpec)

/-- ITS FALSE NEIGHBOUR: 'it returns false'. Refute it at one input. -/
def fnExactGraphReachWrong : ChangeSpec := { name := "fnExactGraphReach", fn := fun _ => fun
  | [d] => { results := [.lit (.bool false)], args := [d] }
  | _ => none }
def FnExactGraphReachWrongFalsely : Prop := fnExactGraphReachRow.holds Try.pinned (OpenSpec.ofChange fnExactGraphReachWrong)

/-- 'laws.FnExactGraphPart': WHATEVER THE INPUT: true; the input reads as it did. -/
def fnExactGraphPartSpec : ChangeSpec := { name := "fnExactGraphPart", fn := fun _ => fun
  | [d1, d2] => { results := [.lit (.bool true)], args := [d1, d2] }
  | _ => none }
def fnExactGraphPartRow : OpenClaim := { program := "ytemhpkfijoodkaa", sum := "a3e5a46838eb371cefc8880e0cd33bb9202b24d40a0d2b4736c70a54cdb16516", func := "loop.example/mobilenames/laws.FnExactGraphPart", spec := "fnExactGraphPart", unfollowed := true, recurses := true, apart := false }
def FnExactGraphPartSaid : Prop := fnExactGraphPartRow.holds Try.pinned (OpenSpec.ofChange fnExactGraphPartSpec)

/-- ITS FALSE NEIGHBOUR: 'it returns false'. Refute it at one input. -/
def fnExactGraphPartWrong : ChangeSpec := { name := "fnExactGraphPart", fn := fun _ => fun
  | [d1, d2] => { results := [.lit (.bool false)], args := [d1, d2] }
  | _ => none }
def FnExactGraphPartWrongFalsely : Prop := fnExactGraphPartRow.holds Try.pinned (OpenSpec.ofChange fnExactGraphPartWrong)

/-- 'laws.FnExactAlikeClasses': WHATEVER THE INPUT: true; the input reads as it did. -/
def fnExactAlikeClassesSpec : ChangeSpec := { name := "fnExactAlikeClasses", fn := fun _ => fun
  | [d] => { results := [.lit (.bool true)], args := [d] }
  | _ => none }
def fnExactAlikeClassesRow : OpenClaim := { program := "ytemhpkfijoodkaa", sum := "a3e5a46838eb371cefc8880e0cd33bb9202b24d40a0d2b4736c70a54cdb16516", func := "loop.example/mobilenames/laws.FnExactAlikeClasses", spec := "fnExactAlikeClasses", unfollowed := true, recurses := true, apart := false }
def FnExactAlikeClassesSaid : Prop := fnExactAlikeClassesRow.holds Try.pinned (OpenSpec.ofChange fnExactAlikeClassesSpec)

/-- ITS FALSE NEIGHBOUR: 'it returns false'. Refute it at one input. -/
def fnExactAlikeClassesWrong : ChangeSpec := { name := "fnExactAlikeClasses", fn := fun _ => fun
  | [d] => { results := [.lit (.bool false)], args := [d] }
  | _ => none }
def FnExactAlikeClassesWrongFalsely : Prop := fnExactAlikeClassesRow.holds Try.pinned (OpenSpec.ofChange fnExactAlikeClassesWrong)

/-- 'laws.FnExactAlikeRounds': WHATEVER THE INPUT: true; the input reads as it did. -/
def fnExactAlikeRoundsSpec : ChangeSpec := { name := "fnExactAlikeRounds", fn := fun _ => fun
  | [d] => { results := [.lit (.bool true)], args := [d] }
  | _ => none }
def fnExactAlikeRoundsRow : OpenClaim := { program := "ytemhpkfijoodkaa", sum := "a3e5a46838eb371cefc8880e0cd33bb9202b24d40a0d2b4736c70a54cdb16516", func := "loop.example/mobilenames/laws.FnExactAlikeRounds", spec := "fnExactAlikeRounds", unfollowed := true, recurses := true, apart := false }
def FnExactAlikeRoundsSaid : Prop := fnExactAlikeRoundsRow.holds Try.pinned (OpenSpec.ofChange fnExactAlikeRoundsSpec)

/-- ITS FALSE NEIGHBOUR: 'it returns false'. Refute it at one input. -/
def fnExactAlikeRoundsWrong : ChangeSpec := { name := "fnExactAlikeRounds", fn := fun _ => fun
  | [d] => { results := [.lit (.bool false)], args := [d] }
  | _ => none }
def FnExactAlikeRoundsWrongFalsely : Prop := fnExactAlikeRoundsRow.holds Try.pinned (OpenSpec.ofChange fnExactAlikeRoundsWrong)

/-- 'laws.FnExactGraphFold': WHATEVER THE INPUT: true; the input reads as it did. -/
def fnExactGraphFoldSpec : ChangeSpec := { name := "fnExactGraphFold", fn := fun _ => fun
  | [d] => { results := [.lit (.bool true)], args := [d] }
  | _ => none }
def fnExactGraphFoldRow : OpenClaim := { program := "ytemhpkfijoodkaa", sum := "a3e5a46838eb371cefc8880e0cd33bb9202b24d40a0d2b4736c70a54cdb16516", func := "loop.example/mobilenames/laws.FnExactGraphFold", spec := "fnExactGraphFold", unfollowed := true, recurses := true, apart := false }
def FnExactGraphFoldSaid : Prop := fnExactGraphFoldRow.holds Try.pinned (OpenSpec.ofChange fnExactGraphFoldSpec)

/-- ITS FALSE NEIGHBOUR: 'it returns false'. Refute it at one input. -/
def fnExactGraphFoldWrong : ChangeSpec := { name := "fnExactGraphFold", fn := fun _ => fun
  | [d] => { results := [.lit (.bool false)], args := [d] }
  | _ => none }
def FnExactGraphFoldWrongFalsely : Prop := fnExactGraphFoldRow.holds Try.pinned (OpenSpec.ofChange fnExactGraphFoldWrong)

/- THE SECOND FORM. 'bulk': how many values and letters a reading holds, each counted each time it is reached (what is shared counts as often as it is met; a slice's spare places count too). A statement '..UptoSaid' is the law's where the arguments, and the package variables that the reading takes, are together of bulk at most 1048576: NARROWER than '..Said'. Prove '..Said' where nothing that the law and all that it calls make is longer than what came in: it says more and counts as full. Else prove '..UptoSaid'. A law counts once. -/
mutual
def uptoBulk {H : Type} : DataW H → Nat
  | .lit (.string bytes) => bytes.length + 1
  | .lit _ => 1
  | .nil => 1
  | .ptr d => uptoBulk d + 1
  | .slice elems spare => uptoBulkAll elems + uptoBulkAll spare + 1
  | .agg parts => uptoBulkAll parts + 1
  | .iface _ d => uptoBulk d + 1
  | .map entries => uptoBulkEntries entries + 1
  | .held _ => 1
def uptoBulkAll {H : Type} : List (DataW H) → Nat
  | [] => 0
  | d :: r => uptoBulk d + uptoBulkAll r
def uptoBulkEntries {H : Type} : List (Lit × DataW H) → Nat
  | [] => 0
  | x :: r => uptoBulkEntry x + uptoBulkEntries r
def uptoBulkEntry {H : Type} : Lit × DataW H → Nat
  | (.string bytes, d) => bytes.length + uptoBulk d + 1
  | (_, d) => uptoBulk d + 1
 end
def uptoSmall : (H : Type) → List (DataW H) → Bool := fun _ ds => decide (uptoBulkAll ds ≤ 1048576)
def OpenSpec.upto (s : _root_.Go.ChangeSpec) : _root_.Go.OpenSpec := { _root_.Go.OpenSpec.ofChange s with cond := some uptoSmall }

/-- 'laws.FnExactGraphOk', WHERE WHAT IT READS IS OF BULK AT MOST 1048576: true; the input reads as it did. -/
def fnExactGraphOkUptoRow : OpenClaim := { program := "ytemhpkfijoodkaa", sum := "a3e5a46838eb371cefc8880e0cd33bb9202b24d40a0d2b4736c70a54cdb16516", func := "loop.example/mobilenames/laws.FnExactGraphOk", spec := "fnExactGraphOk", apart := false, narrowed := true }
def FnExactGraphOkUptoSaid : Prop := fnExactGraphOkUptoRow.holds Try.pinned (OpenSpec.upto fnExactGraphOkSpec)

/-- 'laws.FnExactGraphBoth', WHERE WHAT IT READS IS OF BULK AT MOST 1048576: true; the input reads as it did. -/
def fnExactGraphBothUptoRow : OpenClaim := { program := "ytemhpkfijoodkaa", sum := "a3e5a46838eb371cefc8880e0cd33bb9202b24d40a0d2b4736c70a54cdb16516", func := "loop.example/mobilenames/laws.FnExactGraphBoth", spec := "fnExactGraphBoth", apart := false, narrowed := true }
def FnExactGraphBothUptoSaid : Prop := fnExactGraphBothUptoRow.holds Try.pinned (OpenSpec.upto fnExactGraphBothSpec)

/-- 'laws.FnExactGraphLoops', WHERE WHAT IT READS IS OF BULK AT MOST 1048576: true; the input reads as it did. -/
def fnExactGraphLoopsUptoRow : OpenClaim := { program := "ytemhpkfijoodkaa", sum := "a3e5a46838eb371cefc8880e0cd33bb9202b24d40a0d2b4736c70a54cdb16516", func := "loop.example/mobilenames/laws.FnExactGraphLoops", spec := "fnExactGraphLoops", unfollowed := true, recurses := true, apart := false, narrowed := true }
def FnExactGraphLoopsUptoSaid : Prop := fnExactGraphLoopsUptoRow.holds Try.pinned (OpenSpec.upto fnExactGraphLoopsSpec)

/-- 'laws.FnExactAlikeRelation', WHERE WHAT IT READS IS OF BULK AT MOST 1048576: true; the input reads as it did. -/
def fnExactAlikeRelationUptoRow : OpenClaim := { program := "ytemhpkfijoodkaa", sum := "a3e5a46838eb371cefc8880e0cd33bb9202b24d40a0d2b4736c70a54cdb16516", func := "loop.example/mobilenames/laws.FnExactAlikeRelation", spec := "fnExactAlikeRelation", unfollowed := true, recurses := true, apart := false, narrowed := true }
def FnExactAlikeRelationUptoSaid : Prop := fnExactAlikeRelationUptoRow.holds Try.pinned (OpenSpec.upto fnExactAlikeRelationSpec)

/-- 'laws.FnExactGraphReach', WHERE WHAT IT READS IS OF BULK AT MOST 1048576: true; the input reads as it did. -/
def fnExactGraphReachUptoRow : OpenClaim := { program := "ytemhpkfijoodkaa", sum := "a3e5a46838eb371cefc8880e0cd33bb9202b24d40a0d2b4736c70a54cdb16516", func := "loop.example/mobilenames/laws.FnExactGraphReach", spec := "fnExactGraphReach", recurses := true, apart := false, narrowed := true }
def FnExactGraphReachUptoSaid : Prop := fnExactGraphReachUptoRow.holds Try.pinned (OpenSpec.upto fnExactGraphReachSpec)

/-- 'laws.FnExactGraphPart', WHERE WHAT IT READS IS OF BULK AT MOST 1048576: true; the input reads as it did. -/
def fnExactGraphPartUptoRow : OpenClaim := { program := "ytemhpkfijoodkaa", sum := "a3e5a46838eb371cefc8880e0cd33bb9202b24d40a0d2b4736c70a54cdb16516", func := "loop.example/mobilenames/laws.FnExactGraphPart", spec := "fnExactGraphPart", unfollowed := true, recurses := true, apart := false, narrowed := true }
def FnExactGraphPartUptoSaid : Prop := fnExactGraphPartUptoRow.holds Try.pinned (OpenSpec.upto fnExactGraphPartSpec)

/-- 'laws.FnExactAlikeClasses', WHERE WHAT IT READS IS OF BULK AT MOST 1048576: true; the input reads as it did. -/
def fnExactAlikeClassesUptoRow : OpenClaim := { program := "ytemhpkfijoodkaa", sum := "a3e5a46838eb371cefc8880e0cd33bb9202b24d40a0d2b4736c70a54cdb16516", func := "loop.example/mobilenames/laws.FnExactAlikeClasses", spec := "fnExactAlikeClasses", unfollowed := true, recurses := true, apart := false, narrowed := true }
def FnExactAlikeClassesUptoSaid : Prop := fnExactAlikeClassesUptoRow.holds Try.pinned (OpenSpec.upto fnExactAlikeClassesSpec)

/-- 'laws.FnExactAlikeRounds', WHERE WHAT IT READS IS OF BULK AT MOST 1048576: true; the input reads as it did. -/
def fnExactAlikeRoundsUptoRow : OpenClaim := { program := "ytemhpkfijoodkaa", sum := "a3e5a46838eb371cefc8880e0cd33bb9202b24d40a0d2b4736c70a54cdb16516", func := "loop.example/mobilenames/laws.FnExactAlikeRounds", spec := "fnExactAlikeRounds", unfollowed := true, recurses := true, apart := false, narrowed := true }
def FnExactAlikeRoundsUptoSaid : Prop := fnExactAlikeRoundsUptoRow.holds Try.pinned (OpenSpec.upto fnExactAlikeRoundsSpec)

/-- 'laws.FnExactGraphFold', WHERE WHAT IT READS IS OF BULK AT MOST 1048576: true; the input reads as it did. -/
def fnExactGraphFoldUptoRow : OpenClaim := { program := "ytemhpkfijoodkaa", sum := "a3e5a46838eb371cefc8880e0cd33bb9202b24d40a0d2b4736c70a54cdb16516", func := "loop.example/mobilenames/laws.FnExactGraphFold", spec := "fnExactGraphFold", unfollowed := true, recurses := true, apart := false, narrowed := true }
def FnExactGraphFoldUptoSaid : Prop := fnExactGraphFoldUptoRow.holds Try.pinned (OpenSpec.upto fnExactGraphFoldSpec)

end Rows
end Go.Proofs.Ytemhpkfijoodkaa
