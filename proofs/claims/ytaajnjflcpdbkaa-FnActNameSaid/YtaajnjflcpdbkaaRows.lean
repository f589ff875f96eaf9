/-
  No cell of these rows narrows 'for every input' (looked for: loops, veiled, ifaces, maps, wideKeys, modest, calm, conditions, laid).
  DERIVED. THE GIVEN ROWS OF THIS SEAT. 11 by the template 'for every input the law returns true; each argument reads behind the call as it read before'; 0 by the template 'total and deterministic' (their statements: YtaajnjflcpdbkaaTotals.lean).
  GIVEN WITH THE SEED: the statements are not yours to turn. If you find one false, say at which input.
  Laid BY PROGRAM, IN A SANDBOX (cutbox-rows.mjs): the forced cells as the released guide's own fill.sh prints them over the translation 39974bca4ba0d0f7… (all of the seat's roots in one cut). By AI agents, Wed Nov 11 2026. No macro, syntax, notation, axiom, sorry.
-/
import Derived.Test.YtaajnjflcpdbkaaChecked
import GoSem.Claim
import GoSem.ClaimJoined
import GoSem.ClaimMapViews
import Derived.JoinedTies
import Derived.KernelRfl
namespace Go.Proofs.Ytaajnjflcpdbkaa
/- THE CELL 'sum', in the pinned program and in every row, IS THE sha256 OF THE DUMP (.gsa) THAT YtaajnjflcpdbkaaProg.lean LOADS. Nothing in Lean hashes anything: it is a label: what it is worth is what the hold of that sum in a sandbox is worth. -/
noncomputable def Try.pinned : Pinned := { name := "ytaajnjflcpdbkaa", sum := "39974bca4ba0d0f76c16a7eae5148c0e3ed8bd9144d0e1580c5f36c96368f7e6", checked := Try.checked }
namespace Rows
def none {H : Type} : Left H := { results := [], args := [] }

/-- 'laws.FnExactConstants': WHATEVER THE INPUT: true; the input reads as it did. -/
def fnExactConstantsSpec : ChangeSpec := { name := "fnExactConstants", fn := fun _ => fun
  | [] => { results := [.lit (.bool true)], args := [] }
  | _ => none }
def fnExactConstantsRow : OpenClaim := { program := "ytaajnjflcpdbkaa", sum := "39974bca4ba0d0f76c16a7eae5148c0e3ed8bd9144d0e1580c5f36c96368f7e6", func := "loop.example/mobilenames/laws.FnExactConstants", spec := "fnExactConstants", apart := false }
def FnExactConstantsSaid : Prop := fnExactConstantsRow.holds Try.pinned (OpenSpec.ofChange fnExactConstantsSpec)

/-- ITS FALSE NEIGHBOUR: 'it returns false'. Refute it at one input. -/
def fnExactConstantsWrong : ChangeSpec := { name := "fnExactConstants", fn := fun _ => fun
  | [] => { results := [.lit (.bool false)], args := [] }
  | _ => none }
def FnExactConstantsWrongFalsely : Prop := fnExactConstantsRow.holds Try.pinned (OpenSpec.ofChange fnExactConstantsWrong)

/-- 'laws.FnExactActOk': WHATEVER THE INPUT: true; the input reads as it did. -/
def fnExactActOkSpec : ChangeSpec := { name := "fnExactActOk", fn := fun _ => fun
  | [d] => { results := [.lit (.bool true)], args := [d] }
  | _ => none }
def fnExactActOkRow : OpenClaim := { program := "ytaajnjflcpdbkaa", sum := "39974bca4ba0d0f76c16a7eae5148c0e3ed8bd9144d0e1580c5f36c96368f7e6", func := "loop.example/mobilenames/laws.FnExactActOk", spec := "fnExactActOk", apart := false }
def FnExactActOkSaid : Prop := fnExactActOkRow.holds Try.pinned (OpenSpec.ofChange fnExactActOkSpec)

/-- ITS FALSE NEIGHBOUR: 'it returns false'. Refute it at one input. -/
def fnExactActOkWrong : ChangeSpec := { name := "fnExactActOk", fn := fun _ => fun
  | [d] => { results := [.lit (.bool false)], args := [d] }
  | _ => none }
def FnExactActOkWrongFalsely : Prop := fnExactActOkRow.holds Try.pinned (OpenSpec.ofChange fnExactActOkWrong)

/-- 'laws.FnExactActPartner': WHATEVER THE INPUT: true; the input reads as it did. -/
def fnExactActPartnerSpec : ChangeSpec := { name := "fnExactActPartner", fn := fun _ => fun
  | [d] => { results := [.lit (.bool true)], args := [d] }
  | _ => none }
def fnExactActPartnerRow : OpenClaim := { program := "ytaajnjflcpdbkaa", sum := "39974bca4ba0d0f76c16a7eae5148c0e3ed8bd9144d0e1580c5f36c96368f7e6", func := "loop.example/mobilenames/laws.FnExactActPartner", spec := "fnExactActPartner", apart := false }
def FnExactActPartnerSaid : Prop := fnExactActPartnerRow.holds Try.pinned (OpenSpec.ofChange fnExactActPartnerSpec)

/-- ITS FALSE NEIGHBOUR: 'it returns false'. Refute it at one input. -/
def fnExactActPartnerWrong : ChangeSpec := { name := "fnExactActPartner", fn := fun _ => fun
  | [d] => { results := [.lit (.bool false)], args := [d] }
  | _ => none }
def FnExactActPartnerWrongFalsely : Prop := fnExactActPartnerRow.holds Try.pinned (OpenSpec.ofChange fnExactActPartnerWrong)

/-- 'laws.FnExactActName': WHATEVER THE INPUT: true; the input reads as it did. -/
def fnExactActNameSpec : ChangeSpec := { name := "fnExactActName", fn := fun _ => fun
  | [d] => { results := [.lit (.bool true)], args := [d] }
  | _ => none }
def fnExactActNameRow : OpenClaim := { program := "ytaajnjflcpdbkaa", sum := "39974bca4ba0d0f76c16a7eae5148c0e3ed8bd9144d0e1580c5f36c96368f7e6", func := "loop.example/mobilenames/laws.FnExactActName", spec := "fnExactActName", apart := false }
def FnExactActNameSaid : Prop := fnExactActNameRow.holds Try.pinned (OpenSpec.ofChange fnExactActNameSpec)

/-- ITS FALSE NEIGHBOUR: 'it returns false'. Refute it at one input. -/
def fnExactActNameWrong : ChangeSpec := { name := "fnExactActName", fn := fun _ => fun
  | [d] => { results := [.lit (.bool false)], args := [d] }
  | _ => none }
def FnExactActNameWrongFalsely : Prop := fnExactActNameRow.holds Try.pinned (OpenSpec.ofChange fnExactActNameWrong)

/-- 'laws.FnExactActText': WHATEVER THE INPUT: true; the input reads as it did. -/
def fnExactActTextSpec : ChangeSpec := { name := "fnExactActText", fn := fun _ => fun
  | [d] => { results := [.lit (.bool true)], args := [d] }
  | _ => none }
def fnExactActTextRow : OpenClaim := { program := "ytaajnjflcpdbkaa", sum := "39974bca4ba0d0f76c16a7eae5148c0e3ed8bd9144d0e1580c5f36c96368f7e6", func := "loop.example/mobilenames/laws.FnExactActText", spec := "fnExactActText", apart := false }
def FnExactActTextSaid : Prop := fnExactActTextRow.holds Try.pinned (OpenSpec.ofChange fnExactActTextSpec)

/-- ITS FALSE NEIGHBOUR: 'it returns false'. Refute it at one input. -/
def fnExactActTextWrong : ChangeSpec := { name := "fnExactActText", fn := fun _ => fun
  | [d] => { results := [.lit (.bool false)], args := [d] }
  | _ => none }
def FnExactActTextWrongFalsely : Prop := fnExactActTextRow.holds Try.pinned (OpenSpec.ofChange fnExactActTextWrong)

/-- 'laws.FnExactActRead': WHATEVER THE INPUT: true; the input reads as it did. -/
def fnExactActReadSpec : ChangeSpec := { name := "fnExactActRead", fn := fun _ => fun
  | [d] => { results := [.lit (.bool true)], args := [d] }
  | _ => none }
def fnExactActReadRow : OpenClaim := { program := "ytaajnjflcpdbkaa", sum := "39974bca4ba0d0f76c16a7eae5148c0e3ed8bd9144d0e1580c5f36c96368f7e6", func := "loop.example/mobilenames/laws.FnExactActRead", spec := "fnExactActRead", apart := false }
def FnExactActReadSaid : Prop := fnExactActReadRow.holds Try.pinned (OpenSpec.ofChange fnExactActReadSpec)

/-- ITS FALSE NEIGHBOUR: 'it returns false'. Refute it at one input. -/
def fnExactActReadWrong : ChangeSpec := { name := "fnExactActRead", fn := fun _ => fun
  | [d] => { results := [.lit (.bool false)], args := [d] }
  | _ => none }
def FnExactActReadWrongFalsely : Prop := fnExactActReadRow.holds Try.pinned (OpenSpec.ofChange fnExactActReadWrong)

/-- 'laws.FnActName': WHATEVER THE INPUT: true; the input reads as it did. -/
def fnActNameSpec : ChangeSpec := { name := "fnActName", fn := fun _ => fun
  | [d] => { results := [.lit (.bool true)], args := [d] }
  | _ => none }
def fnActNameRow : OpenClaim := { program := "ytaajnjflcpdbkaa", sum := "39974bca4ba0d0f76c16a7eae5148c0e3ed8bd9144d0e1580c5f36c96368f7e6", func := "loop.example/mobilenames/laws.FnActName", spec := "fnActName", apart := false }
def FnActNameSaid : Prop := fnActNameRow.holds Try.pinned (OpenSpec.ofChange fnActNameSpec)

/-- ITS FALSE NEIGHBOUR: 'it returns false'. Refute it at one input. -/
def fnActNameWrong : ChangeSpec := { name := "fnActName", fn := fun _ => fun
  | [d] => { results := [.lit (.bool false)], args := [d] }
  | _ => none }
def FnActNameWrongFalsely : Prop := fnActNameRow.holds Try.pinned (OpenSpec.ofChange fnActNameWrong)

/-- 'laws.FnActPartner': WHATEVER THE INPUT: true; the input reads as it did. -/
def fnActPartnerSpec : ChangeSpec := { name := "fnActPartner", fn := fun _ => fun
  | [d] => { results := [.lit (.bool true)], args := [d] }
  | _ => none }
def fnActPartnerRow : OpenClaim := { program := "ytaajnjflcpdbkaa", sum := "39974bca4ba0d0f76c16a7eae5148c0e3ed8bd9144d0e1580c5f36c96368f7e6", func := "loop.example/mobilenames/laws.FnActPartner", spec := "fnActPartner", apart := false }
def FnActPartnerSaid : Prop := fnActPartnerRow.holds Try.pinned (OpenSpec.ofChange fnActPartnerSpec)

/-- ITS FALSE NEIGHBOUR: 'it returns false'. Refute it at one input. -/
def fnActPartnerWrong : ChangeSpec := { name := "fnActPartner", fn := fun _ => fun
  | [d] => { results := [.lit (.bool false)], args := [d] }
  | _ => none }
def FnActPartnerWrongFalsely : Prop := fnActPartnerRow.holds Try.pinned (OpenSpec.ofChange fnActPartnerWrong)

/-- 'laws.FnActOk': WHATEVER THE INPUT: true; the input reads as it did. -/
def fnActOkSpec : ChangeSpec := { name := "fnActOk", fn := fun _ => fun
  | [d] => { results := [.lit (.bool true)], args := [d] }
  | _ => none }
def fnActOkRow : OpenClaim := { program := "ytaajnjflcpdbkaa", sum := "39974bca4ba0d0f76c16a7eae5148c0e3ed8bd9144d0e1580c5f36c96368f7e6", func := "loop.example/mobilenames/laws.FnActOk", spec := "fnActOk", apart := false }
def FnActOkSaid : Prop := fnActOkRow.holds Try.pinned (OpenSpec.ofChange fnActOkSpec)

/-- ITS FALSE NEIGHBOUR: 'it returns false'. Refute it at one input. -/
def fnActOkWrong : ChangeSpec := { name := "fnActOk", fn := fun _ => fun
  | [d] => { results := [.lit (.bool false)], args := [d] }
  | _ => none }
def FnActOkWrongFalsely : Prop := fnActOkRow.holds Try.pinned (OpenSpec.ofChange fnActOkWrong)

/-- 'laws.FnActText': WHATEVER THE INPUT: true; the input reads as it did. -/
def fnActTextSpec : ChangeSpec := { name := "fnActText", fn := fun _ => fun
  | [d] => { results := [.lit (.bool true)], args := [d] }
  | _ => none }
def fnActTextRow : OpenClaim := { program := "ytaajnjflcpdbkaa", sum := "39974bca4ba0d0f76c16a7eae5148c0e3ed8bd9144d0e1580c5f36c96368f7e6", func := "loop.example/mobilenames/laws.FnActText", spec := "fnActText", apart := false }
def FnActTextSaid : Prop := fnActTextRow.holds Try.pinned (OpenSpec.ofChange fnActTextSpec)

/-- ITS FALSE NEIGHBOUR: 'it returns false'. Refute it at one input. -/
def fnActTextWrong : ChangeSpec := { name := "fnActText", fn := fun _ => fun
  | [d] => { results := [.lit (.bool false)], args := [d] }
  | _ => none }
def FnActTextWrongFalsely : Prop := fnActTextRow.holds Try.pinned (OpenSpec.ofChange fnActTextWrong)

/-- 'laws.FnActRead': WHATEVER THE INPUT: true; the input reads as it did. -/
def fnActReadSpec : ChangeSpec := { name := "fnActRead", fn := fun _ => fun
  | [d] => { results := [.lit (.bool true)], args := [d] }
  | _ => none }
def fnActReadRow : OpenClaim := { program := "ytaajnjflcpdbkaa", sum := "39974bca4ba0d0f76c16a7eae5148c0e3ed8bd9144d0e1580c5f36c96368f7e6", func := "loop.example/mobilenames/laws.FnActRead", spec := "fnActRead", apart := false }
def FnActReadSaid : Prop := fnActReadRow.holds Try.pinned (OpenSpec.ofChange fnActReadSpec)

/-- ITS FALSE NEIGHBOUR: 'it returns false'. Refute it at one input. -/
def fnActReadWrong : ChangeSpec := { name := "fnActRead", fn := fun _ => fun
  | [d] => { results := [.lit (.bool false)], args := [d] }
  | _ => none }
def FnActReadWrongFalsely : Prop := fnActReadRow.holds Try.pinned (OpenSpec.ofChange fnActReadWrong)

/- THE SECOND FORM. 'bulk': how many values and letters a reading holds, each counted each time it is reached (what is shared counts as often as it is met; a slice's spare places count too). A statement '..UptoSaid' is the law's where the arguments, and the package variables that the reading takes, are together of bulk at most 1048576: NARROWER than '..Said'. Prove '..Said' where nothing that the law and all that it calls make is longer than what came in: it says more and counts as full. Else prove '..UptoSaid'. A law counts once. -/
mutual
def uptoBulk {H : Type} : DataW H → Nat
  | .lit (.string bytes) => bytes.length + 1
  | .lit _ => 1
  | .nil => 1
  | .ptr d => uptoBulk d + 1
  | .slice elems spare => uptoBulkAll elems + uptoBulkAll spare + 1
  | .agg parts => uptoBulkAll parts + 1
  | .iface _ d => uptoBulk d + 1
  | .map entries => uptoBulkEntries entries + 1
  | .held _ => 1
def uptoBulkAll {H : Type} : List (DataW H) → Nat
  | [] => 0
  | d :: r => uptoBulk d + uptoBulkAll r
def uptoBulkEntries {H : Type} : List (Lit × DataW H) → Nat
  | [] => 0
  | x :: r => uptoBulkEntry x + uptoBulkEntries r
def uptoBulkEntry {H : Type} : Lit × DataW H → Nat
  | (.string bytes, d) => bytes.length + uptoBulk d + 1
  | (_, d) => uptoBulk d + 1
 end
def uptoSmall : (H : Type) → List (DataW H) → Bool := fun _ ds => decide (uptoBulkAll ds ≤ 1048576)
def OpenSpec.upto (s : _root_.Go.ChangeSpec) : _root_.Go.OpenSpec := { _root_.Go.OpenSpec.ofChange s with cond := some uptoSmall }

/-- 'laws.FnExactConstants', WHERE WHAT IT READS IS OF BULK AT MOST 1048576: true; the input reads as it did. -/
def fnExactConstantsUptoRow : OpenClaim := { program := "ytaajnjflcpdbkaa", sum := "39974bca4ba0d0f76c16a7eae5148c0e3ed8bd9144d0e1580c5f36c96368f7e6", func := "loop.example/mobilenames/laws.FnExactConstants", spec := "fnExactConstants", apart := false, narrowed := true }
def FnExactConstantsUptoSaid : Prop := fnExactConstantsUptoRow.holds Try.pinned (OpenSpec.upto fnExactConstantsSpec)

/-- 'laws.FnExactActOk', WHERE WHAT IT READS IS OF BULK AT MOST 1048576: true; the input reads as it did. -/
def fnExactActOkUptoRow : OpenClaim := { program := "ytaajnjflcpdbkaa", sum := "39974bca4ba0d0f76c16a7eae5148c0e3ed8bd9144d0e1580c5f36c96368f7e6", func := "loop.example/mobilenames/laws.FnExactActOk", spec := "fnExactActOk", apart := false, narrowed := true }
def FnExactActOkUptoSaid : Prop := fnExactActOkUptoRow.holds Try.pinned (OpenSpec.upto fnExactActOkSpec)

/-- 'laws.FnExactActPartner', WHERE WHAT IT READS IS OF BULK AT MOST 1048576: true; the input reads as it did. -/
def fnExactActPartnerUptoRow : OpenClaim := { program := "ytaajnjflcpdbkaa", sum := "39974bca4ba0d0f76c16a7eae5148c0e3ed8bd9144d0e1580c5f36c96368f7e6", func := "loop.example/mobilenames/laws.FnExactActPartner", spec := "fnExactActPartner", apart := false, narrowed := true }
def FnExactActPartnerUptoSaid : Prop := fnExactActPartnerUptoRow.holds Try.pinned (OpenSpec.upto fnExactActPartnerSpec)

/-- 'laws.FnExactActName', WHERE WHAT IT READS IS OF BULK AT MOST 1048576: true; the input reads as it did. -/
def fnExactActNameUptoRow : OpenClaim := { program := "ytaajnjflcpdbkaa", sum := "39974bca4ba0d0f76c16a7eae5148c0e3ed8bd9144d0e1580c5f36c96368f7e6", func := "loop.example/mobilenames/laws.FnExactActName", spec := "fnExactActName", apart := false, narrowed := true }
def FnExactActNameUptoSaid : Prop := fnExactActNameUptoRow.holds Try.pinned (OpenSpec.upto fnExactActNameSpec)

/-- 'laws.FnExactActText', WHERE WHAT IT READS IS OF BULK AT MOST 1048576: true; the input reads as it did. -/
def fnExactActTextUptoRow : OpenClaim := { program := "ytaajnjflcpdbkaa", sum := "39974bca4ba0d0f76c16a7eae5148c0e3ed8bd9144d0e1580c5f36c96368f7e6", func := "loop.example/mobilenames/laws.FnExactActText", spec := "fnExactActText", apart := false, narrowed := true }
def FnExactActTextUptoSaid : Prop := fnExactActTextUptoRow.holds Try.pinned (OpenSpec.upto fnExactActTextSpec)

/-- 'laws.FnExactActRead', WHERE WHAT IT READS IS OF BULK AT MOST 1048576: true; the input reads as it did. -/
def fnExactActReadUptoRow : OpenClaim := { program := "ytaajnjflcpdbkaa", sum := "39974bca4ba0d0f76c16a7eae5148c0e3ed8bd9144d0e1580c5f36c96368f7e6", func := "loop.example/mobilenames/laws.FnExactActRead", spec := "fnExactActRead", apart := false, narrowed := true }
def FnExactActReadUptoSaid : Prop := fnExactActReadUptoRow.holds Try.pinned (OpenSpec.upto fnExactActReadSpec)

/-- 'laws.FnActName', WHERE WHAT IT READS IS OF BULK AT MOST 1048576: true; the input reads as it did. -/
def fnActNameUptoRow : OpenClaim := { program := "ytaajnjflcpdbkaa", sum := "39974bca4ba0d0f76c16a7eae5148c0e3ed8bd9144d0e1580c5f36c96368f7e6", func := "loop.example/mobilenames/laws.FnActName", spec := "fnActName", apart := false, narrowed := true }
def FnActNameUptoSaid : Prop := fnActNameUptoRow.holds Try.pinned (OpenSpec.upto fnActNameSpec)

/-- 'laws.FnActPartner', WHERE WHAT IT READS IS OF BULK AT MOST 1048576: true; the input reads as it did. -/
def fnActPartnerUptoRow : OpenClaim := { program := "ytaajnjflcpdbkaa", sum := "39974bca4ba0d0f76c16a7eae5148c0e3ed8bd9144d0e1580c5f36c96368f7e6", func := "loop.example/mobilenames/laws.FnActPartner", spec := "fnActPartner", apart := false, narrowed := true }
def FnActPartnerUptoSaid : Prop := fnActPartnerUptoRow.holds Try.pinned (OpenSpec.upto fnActPartnerSpec)

/-- 'laws.FnActOk', WHERE WHAT IT READS IS OF BULK AT MOST 1048576: true; the input reads as it did. -/
def fnActOkUptoRow : OpenClaim := { program := "ytaajnjflcpdbkaa", sum := "39974bca4ba0d0f76c16a7eae5148c0e3ed8bd9144d0e1580c5f36c96368f7e6", func := "loop.example/mobilenames/laws.FnActOk", spec := "fnActOk", apart := false, narrowed := true }
def FnActOkUptoSaid : Prop := fnActOkUptoRow.holds Try.pinned (OpenSpec.upto fnActOkSpec)

/-- 'laws.FnActText', WHERE WHAT IT READS IS OF BULK AT MOST 1048576: true; the input reads as it did. -/
def fnActTextUptoRow : OpenClaim := { program := "ytaajnjflcpdbkaa", sum := "39974bca4ba0d0f76c16a7eae5148c0e3ed8bd9144d0e1580c5f36c96368f7e6", func := "loop.example/mobilenames/laws.FnActText", spec := "fnActText", apart := false, narrowed := true }
def FnActTextUptoSaid : Prop := fnActTextUptoRow.holds Try.pinned (OpenSpec.upto fnActTextSpec)

/-- 'laws.FnActRead', WHERE WHAT IT READS IS OF BULK AT MOST 1048576: true; the input reads as it did. -/
def fnActReadUptoRow : OpenClaim := { program := "ytaajnjflcpdbkaa", sum := "39974bca4ba0d0f76c16a7eae5148c0e3ed8bd9144d0e1580c5f36c96368f7e6", func := "loop.example/mobilenames/laws.FnActRead", spec := "fnActRead", apart := false, narrowed := true }
def FnActReadUptoSaid : Prop := fnActReadUptoRow.holds Try.pinned (OpenSpec.upto fnActReadSpec)

end Rows
end Go.Proofs.Ytaajnjflcpdbkaa
