/-
  NARROWER THAN 'FOR EVERY INPUT', by the rows' own cells (each row's printed sentence says how): FnExactTermOk: loops · FnExactTermFits: loops · FnExactDefsOk: loops · FnExactTermNames: loops · FnExactTermSwap: loops.
  DERIVED. THE GIVEN ROWS OF THIS SEAT. 9 by the template 'for every input the law returns true; each argument reads behind the call as it read before'; 0 by the template 'total and deterministic' (their statements: YtkgmdicbfpkihaaTotals.lean).
  GIVEN WITH THE SEED: the statements are not yours to turn. If you find one false, say at which input.
  Laid BY PROGRAM, IN A SANDBOX (cutbox-rows.mjs): the forced cells as the released guide's own fill.sh prints them over the translation 1e2a899a478e347a… (all of the seat's roots in one cut). By AI agents, Wed Nov 11 2026. No macro, syntax, notation, axiom, sorry.
-/
import Derived.Test.YtkgmdicbfpkihaaChecked
import GoSem.Claim
import GoSem.ClaimJoined
import GoSem.ClaimMapViews
import Derived.JoinedTies
import Derived.KernelRfl
namespace Go.Proofs.Ytkgmdicbfpkihaa
/- THE CELL 'sum', in the pinned program and in every row, IS THE sha256 OF THE DUMP (.gsa) THAT YtkgmdicbfpkihaaProg.lean LOADS. Nothing in Lean hashes anything: it is a label: what it is worth is what the hold of that sum in a sandbox is worth. -/
noncomputable def Try.pinned : Pinned := { name := "ytkgmdicbfpkihaa", sum := "1e2a899a478e347aa80e9832c83869fd0d7610714a8cdba9613e167c7a3e5258", checked := Try.checked }
namespace Rows
def none {H : Type} : Left H := { results := [], args := [] }

/-- 'laws.FnExactTermOk': WHATEVER THE INPUT: true; the input reads as it did. -/
def fnExactTermOkSpec : ChangeSpec := { name := "fnExactTermOk", fn := fun _ => fun
  | [d] => { results := [.lit (.bool true)], args := [d] }
  | _ => none }
def fnExactTermOkRow : OpenClaim := { program := "ytkgmdicbfpkihaa", sum := "1e2a899a478e347aa80e9832c83869fd0d7610714a8cdba9613e167c7a3e5258", func := "loop.example/mobilenames/laws.FnExactTermOk", spec := "fnExactTermOk", unfollowed := true, recurses := true, loops := true, apart := false }
def FnExactTermOkSaid : Prop := fnExactTermOkRow.holds Try.pinned (OpenSpec.ofChange fnExactTermOkSpec)

/-- ITS FALSE NEIGHBOUR: 'it returns false'. Refute it at one input. -/
def fnExactTermOkWrong : ChangeSpec := { name := "fnExactTermOk", fn := fun _ => fun
  | [d] => { results := [.lit (.bool false)], args := [d] }
  | _ => none }
def FnExactTermOkWrongFalsely : Prop := fnExactTermOkRow.holds Try.pinned (OpenSpec.ofChange fnExactTermOkWrong)

/-- 'laws.FnExactTermFits': WHATEVER THE INPUT: true; the input reads as it did. -/
def fnExactTermFitsSpec : ChangeSpec := { name := "fnExactTermFits", fn := fun _ => fun
  | [d1, d2] => { results := [.lit (.bool true)], args := [d1, d2] }
  | _ => none }
def fnExactTermFitsRow : OpenClaim := { program := "ytkgmdicbfpkihaa", sum := "1e2a899a478e347aa80e9832c83869fd0d7610714a8cdba9613e167c7a3e5258", func := "loop.example/mobilenames/laws.FnExactTermFits", spec := "fnExactTermFits", unfollowed := true, recurses := true, loops := true, apart := false }
def FnExactTermFitsSaid : Prop := fnExactTermFitsRow.holds Try.pinned (OpenSpec.ofChange fnExactTermFitsSpec)

/-- ITS FALSE NEIGHBOUR: 'it returns false'. Refute it at one input. -/
def fnExactTermFitsWrong : ChangeSpec := { name := "fnExactTermFits", fn := fun _ => fun
  | [d1, d2] => { results := [.lit (.bool false)], args := [d1, d2] }
  | _ => none }
def FnExactTermFitsWrongFalsely : Prop := fnExactTermFitsRow.holds Try.pinned (OpenSpec.ofChange fnExactTermFitsWrong)

/-- 'laws.FnExactDefsOk': WHATEVER THE INPUT: true; the input reads as it did. -/
def fnExactDefsOkSpec : ChangeSpec := { name := "fnExactDefsOk", fn := fun _ => fun
  | [d] => { results := [.lit (.bool true)], args := [d] }
  | _ => none }
def fnExactDefsOkRow : OpenClaim := { program := "ytkgmdicbfpkihaa", sum := "1e2a899a478e347aa80e9832c83869fd0d7610714a8cdba9613e167c7a3e5258", func := "loop.example/mobilenames/laws.FnExactDefsOk", spec := "fnExactDefsOk", unfollowed := true, recurses := true, loops := true, apart := false }
def FnExactDefsOkSaid : Prop := fnExactDefsOkRow.holds Try.pinned (OpenSpec.ofChange fnExactDefsOkSpec)

/-- ITS FALSE NEIGHBOUR: 'it returns false'. Refute it at one input. -/
def fnExactDefsOkWrong : ChangeSpec := { name := "fnExactDefsOk", fn := fun _ => fun
  | [d] => { results := [.lit (.bool false)], args := [d] }
  | _ => none }
def FnExactDefsOkWrongFalsely : Prop := fnExactDefsOkRow.holds Try.pinned (OpenSpec.ofChange fnExactDefsOkWrong)

/-- 'laws.FnTermFits': WHATEVER THE INPUT: true; the input reads as it did. -/
def fnTermFitsSpec : ChangeSpec := { name := "fnTermFits", fn := fun _ => fun
  | [d] => { results := [.lit (.bool true)], args := [d] }
  | _ => none }
def fnTermFitsRow : OpenClaim := { program := "ytkgmdicbfpkihaa", sum := "1e2a899a478e347aa80e9832c83869fd0d7610714a8cdba9613e167c7a3e5258", func := "loop.example/mobilenames/laws.FnTermFits", spec := "fnTermFits", unfollowed := true, recurses := true, apart := false }
def FnTermFitsSaid : Prop := fnTermFitsRow.holds Try.pinned (OpenSpec.ofChange fnTermFitsSpec)

/-- ITS FALSE NEIGHBOUR: 'it returns false'. Refute it at one input. -/
def fnTermFitsWrong : ChangeSpec := { name := "fnTermFits", fn := fun _ => fun
  | [d] => { results := [.lit (.bool false)], args := [d] }
  | _ => none }
def FnTermFitsWrongFalsely : Prop := fnTermFitsRow.holds Try.pinned (OpenSpec.ofChange fnTermFitsWrong)

/-- 'laws.FnExactTermNames': WHATEVER THE INPUT: true; the input reads as it did. -/
def fnExactTermNamesSpec : ChangeSpec := { name := "fnExactTermNames", fn := fun _ => fun
  | [d] => { results := [.lit (.bool true)], args := [d] }
  | _ => none }
def fnExactTermNamesRow : OpenClaim := { program := "ytkgmdicbfpkihaa", sum := "1e2a899a478e347aa80e9832c83869fd0d7610714a8cdba9613e167c7a3e5258", func := "loop.example/mobilenames/laws.FnExactTermNames", spec := "fnExactTermNames", unfollowed := true, recurses := true, loops := true, apart := false }
def FnExactTermNamesSaid : Prop := fnExactTermNamesRow.holds Try.pinned (OpenSpec.ofChange fnExactTermNamesSpec)

/-- ITS FALSE NEIGHBOUR: 'it returns false'. Refute it at one input. -/
def fnExactTermNamesWrong : ChangeSpec := { name := "fnExactTermNames", fn := fun _ => fun
  | [d] => { results := [.lit (.bool false)], args := [d] }
  | _ => none }
def FnExactTermNamesWrongFalsely : Prop := fnExactTermNamesRow.holds Try.pinned (OpenSpec.ofChange fnExactTermNamesWrong)

/-- 'laws.FnTermNames': WHATEVER THE INPUT: true; the input reads as it did. -/
def fnTermNamesSpec : ChangeSpec := { name := "fnTermNames", fn := fun _ => fun
  | [d] => { results := [.lit (.bool true)], args := [d] }
  | _ => none }
def fnTermNamesRow : OpenClaim := { program := "ytkgmdicbfpkihaa", sum := "1e2a899a478e347aa80e9832c83869fd0d7610714a8cdba9613e167c7a3e5258", func := "loop.example/mobilenames/laws.FnTermNames", spec := "fnTermNames", unfollowed := true, recurses := true, apart := false }
def FnTermNamesSaid : Prop := fnTermNamesRow.holds Try.pinned (OpenSpec.ofChange fnTermNamesSpec)

/-- ITS FALSE NEIGHBOUR: 'it returns false'. Refute it at one input. -/
def fnTermNamesWrong : ChangeSpec := { name := "fnTermNames", fn := fun _ => fun
  | [d] => { results := [.lit (.bool false)], args := [d] }
  | _ => none }
def FnTermNamesWrongFalsely : Prop := fnTermNamesRow.holds Try.pinned (OpenSpec.ofChange fnTermNamesWrong)

/-- 'laws.FnExactTermSwap': WHATEVER THE INPUT: true; the input reads as it did. -/
def fnExactTermSwapSpec : ChangeSpec := { name := "fnExactTermSwap", fn := fun _ => fun
  | [d1, d2, d3] => { results := [.lit (.bool true)], args := [d1, d2, d3] }
  | _ => none }
def fnExactTermSwapRow : OpenClaim := { program := "ytkgmdicbfpkihaa", sum := "1e2a899a478e347aa80e9832c83869fd0d7610714a8cdba9613e167c7a3e5258", func := "loop.example/mobilenames/laws.FnExactTermSwap", spec := "fnExactTermSwap", unfollowed := true, recurses := true, loops := true, apart := false }
def FnExactTermSwapSaid : Prop := fnExactTermSwapRow.holds Try.pinned (OpenSpec.ofChange fnExactTermSwapSpec)

/-- ITS FALSE NEIGHBOUR: 'it returns false'. Refute it at one input. -/
def fnExactTermSwapWrong : ChangeSpec := { name := "fnExactTermSwap", fn := fun _ => fun
  | [d1, d2, d3] => { results := [.lit (.bool false)], args := [d1, d2, d3] }
  | _ => none }
def FnExactTermSwapWrongFalsely : Prop := fnExactTermSwapRow.holds Try.pinned (OpenSpec.ofChange fnExactTermSwapWrong)

/-- 'laws.FnTermSwap': WHATEVER THE INPUT: true; the input reads as it did. -/
def fnTermSwapSpec : ChangeSpec := { name := "fnTermSwap", fn := fun _ => fun
  | [d] => { results := [.lit (.bool true)], args := [d] }
  | _ => none }
def fnTermSwapRow : OpenClaim := { program := "ytkgmdicbfpkihaa", sum := "1e2a899a478e347aa80e9832c83869fd0d7610714a8cdba9613e167c7a3e5258", func := "loop.example/mobilenames/laws.FnTermSwap", spec := "fnTermSwap", unfollowed := true, recurses := true, apart := false }
def FnTermSwapSaid : Prop := fnTermSwapRow.holds Try.pinned (OpenSpec.ofChange fnTermSwapSpec)

/-- ITS FALSE NEIGHBOUR: 'it returns false'. Refute it at one input. -/
def fnTermSwapWrong : ChangeSpec := { name := "fnTermSwap", fn := fun _ => fun
  | [d] => { results := [.lit (.bool false)], args := [d] }
  | _ => none }
def FnTermSwapWrongFalsely : Prop := fnTermSwapRow.holds Try.pinned (OpenSpec.ofChange fnTermSwapWrong)

/-- 'laws.FnDefsOk': WHATEVER THE INPUT: true; the input reads as it did. -/
def fnDefsOkSpec : ChangeSpec := { name := "fnDefsOk", fn := fun _ => fun
  | [d] => { results := [.lit (.bool true)], args := [d] }
  | _ => none }
def fnDefsOkRow : OpenClaim := { program := "ytkgmdicbfpkihaa", sum := "1e2a899a478e347aa80e9832c83869fd0d7610714a8cdba9613e167c7a3e5258", func := "loop.example/mobilenames/laws.FnDefsOk", spec := "fnDefsOk", unfollowed := true, recurses := true, apart := false }
def FnDefsOkSaid : Prop := fnDefsOkRow.holds Try.pinned (OpenSpec.ofChange fnDefsOkSpec)

/-- ITS FALSE NEIGHBOUR: 'it returns false'. Refute it at one input. -/
def fnDefsOkWrong : ChangeSpec := { name := "fnDefsOk", fn := fun _ => fun
  | [d] => { results := [.lit (.bool false)], args := [d] }
  | _ => none }
def FnDefsOkWrongFalsely : Prop := fnDefsOkRow.holds Try.pinned (OpenSpec.ofChange fnDefsOkWrong)

/- THE SECOND FORM. 'bulk': how many values and letters a reading holds, each counted each time it is reached (what is shared counts as often as it is met; a slice's spare places count too). A statement '..UptoSaid' is the law's where the arguments, and the package variables that the reading takes, are together of bulk at most 1048576: NARROWER than '..Said'. Prove '..Said' where nothing that the law and all that it calls make is longer than what came in: it says more and counts as full. Else prove '..UptoSaid'. A law counts once. -/
mutual
def uptoBulk {H : Type} : DataW H → Nat
  | .lit (.string bytes) => bytes.length + 1
  | .lit _ => 1
  | .nil => 1
  | .ptr d => uptoBulk d + 1
  | .slice elems spare => uptoBulkAll elems + uptoBulkAll spare + 1
  | .agg parts => uptoBulkAll parts + 1
  | .iface _ d => uptoBulk d + 1
  | .map entries => uptoBulkEntries entries + 1
  | .held _ => 1
def uptoBulkAll {H : Type} : List (DataW H) → Nat
  | [] => 0
  | d :: r => uptoBulk d + uptoBulkAll r
def uptoBulkEntries {H : Type} : List (Lit × DataW H) → Nat
  | [] => 0
  | x :: r => uptoBulkEntry x + uptoBulkEntries r
def uptoBulkEntry {H : Type} : Lit × DataW H → Nat
  | (.string bytes, d) => bytes.length + uptoBulk d + 1
  | (_, d) => uptoBulk d + 1
 end
def uptoSmall : (H : Type) → List (DataW H) → Bool := fun _ ds => decide (uptoBulkAll ds ≤ 1048576)
def OpenSpec.upto (s : _root_.Go.ChangeSpec) : _root_.Go.OpenSpec := { _root_.Go.OpenSpec.ofChange s with cond := some uptoSmall }

/-- 'laws.FnExactTermOk', WHERE WHAT IT READS IS OF BULK AT MOST 1048576: true; the input reads as it did. -/
def fnExactTermOkUptoRow : OpenClaim := { program := "ytkgmdicbfpkihaa", sum := "1e2a899a478e347aa80e9832c83869fd0d7610714a8cdba9613e167c7a3e5258", func := "loop.example/mobilenames/laws.FnExactTermOk", spec := "fnExactTermOk", unfollowed := true, recurses := true, loops := true, apart := false, narrowed := true }
def FnExactTermOkUptoSaid : Prop := fnExactTermOkUptoRow.holds Try.pinned (OpenSpec.upto fnExactTermOkSpec)

/-- 'laws.FnExactTermFits', WHERE WHAT IT READS IS OF BULK AT MOST 1048576: true; the input reads as it did. -/
def fnExactTermFitsUptoRow : OpenClaim := { program := "ytkgmdicbfpkihaa", sum := "1e2a899a478e347aa80e9832c83869fd0d7610714a8cdba9613e167c7a3e5258", func := "loop.example/mobilenames/laws.FnExactTermFits", spec := "fnExactTermFits", unfollowed := true, recurses := true, loops := true, apart := false, narrowed := true }
def FnExactTermFitsUptoSaid : Prop := fnExactTermFitsUptoRow.holds Try.pinned (OpenSpec.upto fnExactTermFitsSpec)

/-- 'laws.FnExactDefsOk', WHERE WHAT IT READS IS OF BULK AT MOST 1048576: true; the input reads as it did. -/
def fnExactDefsOkUptoRow : OpenClaim := { program := "ytkgmdicbfpkihaa", sum := "1e2a899a478e347aa80e9832c83869fd0d7610714a8cdba9613e167c7a3e5258", func := "loop.example/mobilenames/laws.FnExactDefsOk", spec := "fnExactDefsOk", unfollowed := true, recurses := true, loops := true, apart := false, narrowed := true }
def FnExactDefsOkUptoSaid : Prop := fnExactDefsOkUptoRow.holds Try.pinned (OpenSpec.upto fnExactDefsOkSpec)

/-- 'laws.FnTermFits', WHERE WHAT IT READS IS OF BULK AT MOST 1048576: true; the input reads as it did. -/
def fnTermFitsUptoRow : OpenClaim := { program := "ytkgmdicbfpkihaa", sum := "1e2a899a478e347aa80e9832c83869fd0d7610714a8cdba9613e167c7a3e5258", func := "loop.example/mobilenames/laws.FnTermFits", spec := "fnTermFits", unfollowed := true, recurses := true, apart := false, narrowed := true }
def FnTermFitsUptoSaid : Prop := fnTermFitsUptoRow.holds Try.pinned (OpenSpec.upto fnTermFitsSpec)

/-- 'laws.FnExactTermNames', WHERE WHAT IT READS IS OF BULK AT MOST 1048576: true; the input reads as it did. -/
def fnExactTermNamesUptoRow : OpenClaim := { program := "ytkgmdicbfpkihaa", sum := "1e2a899a478e347aa80e9832c83869fd0d7610714a8cdba9613e167c7a3e5258", func := "loop.example/mobilenames/laws.FnExactTermNames", spec := "fnExactTermNames", unfollowed := true, recurses := true, loops := true, apart := false, narrowed := true }
def FnExactTermNamesUptoSaid : Prop := fnExactTermNamesUptoRow.holds Try.pinned (OpenSpec.upto fnExactTermNamesSpec)

/-- 'laws.FnTermNames', WHERE WHAT IT READS IS OF BULK AT MOST 1048576: true; the input reads as it did. -/
def fnTermNamesUptoRow : OpenClaim := { program := "ytkgmdicbfpkihaa", sum := "1e2a899a478e347aa80e9832c83869fd0d7610714a8cdba9613e167c7a3e5258", func := "loop.example/mobilenames/laws.FnTermNames", spec := "fnTermNames", unfollowed := true, recurses := true, apart := false, narrowed := true }
def FnTermNamesUptoSaid : Prop := fnTermNamesUptoRow.holds Try.pinned (OpenSpec.upto fnTermNamesSpec)

/-- 'laws.FnExactTermSwap', WHERE WHAT IT READS IS OF BULK AT MOST 1048576: true; the input reads as it did. -/
def fnExactTermSwapUptoRow : OpenClaim := { program := "ytkgmdicbfpkihaa", sum := "1e2a899a478e347aa80e9832c83869fd0d7610714a8cdba9613e167c7a3e5258", func := "loop.example/mobilenames/laws.FnExactTermSwap", spec := "fnExactTermSwap", unfollowed := true, recurses := true, loops := true, apart := false, narrowed := true }
def FnExactTermSwapUptoSaid : Prop := fnExactTermSwapUptoRow.holds Try.pinned (OpenSpec.upto fnExactTermSwapSpec)

/-- 'laws.FnTermSwap', WHERE WHAT IT READS IS OF BULK AT MOST 1048576: true; the input reads as it did. -/
def fnTermSwapUptoRow : OpenClaim := { program := "ytkgmdicbfpkihaa", sum := "1e2a899a478e347aa80e9832c83869fd0d7610714a8cdba9613e167c7a3e5258", func := "loop.example/mobilenames/laws.FnTermSwap", spec := "fnTermSwap", unfollowed := true, recurses := true, apart := false, narrowed := true }
def FnTermSwapUptoSaid : Prop := fnTermSwapUptoRow.holds Try.pinned (OpenSpec.upto fnTermSwapSpec)

/-- 'laws.FnDefsOk', WHERE WHAT IT READS IS OF BULK AT MOST 1048576: true; the input reads as it did. -/
def fnDefsOkUptoRow : OpenClaim := { program := "ytkgmdicbfpkihaa", sum := "1e2a899a478e347aa80e9832c83869fd0d7610714a8cdba9613e167c7a3e5258", func := "loop.example/mobilenames/laws.FnDefsOk", spec := "fnDefsOk", unfollowed := true, recurses := true, apart := false, narrowed := true }
def FnDefsOkUptoSaid : Prop := fnDefsOkUptoRow.holds Try.pinned (OpenSpec.upto fnDefsOkSpec)

end Rows
end Go.Proofs.Ytkgmdicbfpkihaa
