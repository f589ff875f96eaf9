/-
  DERIVED. GIVEN WITH THE SEED: THE CARDS: each row of YthbodgnoadlbcaaDoorRows.lean that lists a variable, with what it lists TIED to the program's text (the seventh form; the later family's looks); each row that meets fmt, with fmt's text TOLD by the authors' own Lean function (tested against real Go, not proved from fmt's source: count such statements apart). THE CARD IS WHAT COUNTS. Prove the row's statement (the work); the ties are given (YthbodgnoadlbcaaDoorTie.lean); close each card by the builder's one call (the guide's Derived/Test/ToyasCard.lean, 'card_holds'). Laid BY PROGRAM, IN A SANDBOX (cutbox-door.mjs). By AI agents, Wed Nov 11 2026. No macro, syntax, notation, axiom, sorry.
-/
import Derived.Test.YthbodgnoadlbcaaDoorRows
import GoSem.ClaimSeven
namespace Go.Proofs.YthbodgnoadlbcaaDoor
namespace Rows

/-- THE TIED CARD OF 'laws.FnTermOk'. -/
def fnTermOkCard : Claim7 := { stood := { row := fnTermOkRow, standIns := [], harness := (true, "d40a71f7365d6b6afc12ac5657d11b2aac063407cea1f08cf12fd44b2de0504d"), looks := false }, kinds := [], alts := [], laidByText := true, laidKinds := [.data, .data, .data], laidTests := true, laidLooks := .later }
def FnTermOkCardSaid : Prop := Claim7.holds Tryd.pinned (.plain (OpenSpec.ofChange fnTermOkSpec)) fnTermOkCard

/-- THE TIED CARD OF 'laws.FnExactTermRead'. -/
def fnExactTermReadCard : Claim7 := { stood := { row := fnExactTermReadRow, standIns := [], harness := (true, "d40a71f7365d6b6afc12ac5657d11b2aac063407cea1f08cf12fd44b2de0504d"), looks := false }, kinds := [], alts := [], laidByText := true, laidKinds := [.data, .data, .data], laidTests := true, laidLooks := .later }
def FnExactTermReadCardSaid : Prop := Claim7.holds Tryd.pinned (.plain (OpenSpec.ofChange fnExactTermReadSpec)) fnExactTermReadCard

/-- THE TIED CARD OF 'laws.FnTermRead'. -/
def fnTermReadCard : Claim7 := { stood := { row := fnTermReadRow, standIns := [], harness := (true, "d40a71f7365d6b6afc12ac5657d11b2aac063407cea1f08cf12fd44b2de0504d"), looks := false }, kinds := [], alts := [], laidByText := true, laidKinds := [.data, .data, .data], laidTests := true, laidLooks := .later }
def FnTermReadCardSaid : Prop := Claim7.holds Tryd.pinned (.plain (OpenSpec.ofChange fnTermReadSpec)) fnTermReadCard

/-- THE SECOND FORM's CARD OF 'laws.FnTermOk'. -/
def fnTermOkUptoCard : Claim7 := { stood := { row := fnTermOkUptoRow, standIns := [], harness := (true, "d40a71f7365d6b6afc12ac5657d11b2aac063407cea1f08cf12fd44b2de0504d"), looks := false }, kinds := [], alts := [], laidByText := true, laidKinds := [.data, .data, .data], laidTests := true, laidLooks := .later }
def FnTermOkUptoCardSaid : Prop := Claim7.holds Tryd.pinned (.plain (OpenSpec.upto fnTermOkSpec)) fnTermOkUptoCard

/-- THE SECOND FORM's CARD OF 'laws.FnExactTermRead'. -/
def fnExactTermReadUptoCard : Claim7 := { stood := { row := fnExactTermReadUptoRow, standIns := [], harness := (true, "d40a71f7365d6b6afc12ac5657d11b2aac063407cea1f08cf12fd44b2de0504d"), looks := false }, kinds := [], alts := [], laidByText := true, laidKinds := [.data, .data, .data], laidTests := true, laidLooks := .later }
def FnExactTermReadUptoCardSaid : Prop := Claim7.holds Tryd.pinned (.plain (OpenSpec.upto fnExactTermReadSpec)) fnExactTermReadUptoCard

/-- THE SECOND FORM's CARD OF 'laws.FnTermRead'. -/
def fnTermReadUptoCard : Claim7 := { stood := { row := fnTermReadUptoRow, standIns := [], harness := (true, "d40a71f7365d6b6afc12ac5657d11b2aac063407cea1f08cf12fd44b2de0504d"), looks := false }, kinds := [], alts := [], laidByText := true, laidKinds := [.data, .data, .data], laidTests := true, laidLooks := .later }
def FnTermReadUptoCardSaid : Prop := Claim7.holds Tryd.pinned (.plain (OpenSpec.upto fnTermReadSpec)) fnTermReadUptoCard
end Rows
end Go.Proofs.YthbodgnoadlbcaaDoor
