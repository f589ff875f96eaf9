/-
  DERIVED. GIVEN WITH THE SEED: THE CARDS: each row of YtpkgcdpebomalaaDoorRows.lean that lists a variable, with what it lists TIED to the program's text (the seventh form; the later family's looks); each row that meets fmt, with fmt's text TOLD by the authors' own Lean function (tested against real Go, not proved from fmt's source: count such statements apart). THE CARD IS WHAT COUNTS. Prove the row's statement (the work); the ties are given (YtpkgcdpebomalaaDoorTie.lean); close each card by the builder's one call (the guide's Derived/Test/ToyasCard.lean, 'card_holds'). Laid BY PROGRAM, IN A SANDBOX (cutbox-door.mjs). By AI agents, Wed Nov 11 2026. No macro, syntax, notation, axiom, sorry.
-/
import Derived.Test.YtpkgcdpebomalaaDoorRows
import GoSem.ClaimSeven
namespace Go.Proofs.YtpkgcdpebomalaaDoor
namespace Rows

/-- THE TIED CARD OF 'laws.FnExactTermText'. -/
def fnExactTermTextCard : Claim7 := { stood := { row := fnExactTermTextRow, standIns := [], harness := (true, "4de6b2dfc32db23e0391d1cca41509f080d1ecf6bfde7b12845c41c5c42d70a5"), looks := false }, kinds := [], alts := [], laidByText := true, laidKinds := [.data, .data, .data], laidTests := true, laidLooks := .later }
def FnExactTermTextCardSaid : Prop := Claim7.holds Tryd.pinned (.plain (OpenSpec.ofChange fnExactTermTextSpec)) fnExactTermTextCard

/-- THE TIED CARD OF 'laws.FnTermText'. -/
def fnTermTextCard : Claim7 := { stood := { row := fnTermTextRow, standIns := [], harness := (true, "4de6b2dfc32db23e0391d1cca41509f080d1ecf6bfde7b12845c41c5c42d70a5"), looks := false }, kinds := [], alts := [], laidByText := true, laidKinds := [.data, .data, .data], laidTests := true, laidLooks := .later }
def FnTermTextCardSaid : Prop := Claim7.holds Tryd.pinned (.plain (OpenSpec.ofChange fnTermTextSpec)) fnTermTextCard

/-- THE TIED CARD OF 'laws.FnExactGraphOf'. -/
def fnExactGraphOfCard : Claim7 := { stood := { row := fnExactGraphOfRow, standIns := [], harness := (true, "4de6b2dfc32db23e0391d1cca41509f080d1ecf6bfde7b12845c41c5c42d70a5"), looks := false }, kinds := [], alts := [], laidByText := true, laidKinds := [.data, .data, .data], laidTests := true, laidLooks := .later }
def FnExactGraphOfCardSaid : Prop := Claim7.holds Tryd.pinned (.plain (OpenSpec.ofChange fnExactGraphOfSpec)) fnExactGraphOfCard

/-- THE TIED CARD OF 'laws.FnTermOk'. -/
def fnTermOkCard : Claim7 := { stood := { row := fnTermOkRow, standIns := [], harness := (true, "4de6b2dfc32db23e0391d1cca41509f080d1ecf6bfde7b12845c41c5c42d70a5"), looks := false }, kinds := [], alts := [], laidByText := true, laidKinds := [.data, .data, .data], laidTests := true, laidLooks := .later }
def FnTermOkCardSaid : Prop := Claim7.holds Tryd.pinned (.plain (OpenSpec.ofChange fnTermOkSpec)) fnTermOkCard

/-- THE TIED CARD OF 'laws.FnExactTermRead'. -/
def fnExactTermReadCard : Claim7 := { stood := { row := fnExactTermReadRow, standIns := [], harness := (true, "4de6b2dfc32db23e0391d1cca41509f080d1ecf6bfde7b12845c41c5c42d70a5"), looks := false }, kinds := [], alts := [], laidByText := true, laidKinds := [.data, .data, .data], laidTests := true, laidLooks := .later }
def FnExactTermReadCardSaid : Prop := Claim7.holds Tryd.pinned (.plain (OpenSpec.ofChange fnExactTermReadSpec)) fnExactTermReadCard

/-- THE TIED CARD OF 'laws.FnTermRead'. -/
def fnTermReadCard : Claim7 := { stood := { row := fnTermReadRow, standIns := [], harness := (true, "4de6b2dfc32db23e0391d1cca41509f080d1ecf6bfde7b12845c41c5c42d70a5"), looks := false }, kinds := [], alts := [], laidByText := true, laidKinds := [.data, .data, .data], laidTests := true, laidLooks := .later }
def FnTermReadCardSaid : Prop := Claim7.holds Tryd.pinned (.plain (OpenSpec.ofChange fnTermReadSpec)) fnTermReadCard

/-- THE SECOND FORM's CARD OF 'laws.FnExactTermText'. -/
def fnExactTermTextUptoCard : Claim7 := { stood := { row := fnExactTermTextUptoRow, standIns := [], harness := (true, "4de6b2dfc32db23e0391d1cca41509f080d1ecf6bfde7b12845c41c5c42d70a5"), looks := false }, kinds := [], alts := [], laidByText := true, laidKinds := [.data, .data, .data], laidTests := true, laidLooks := .later }
def FnExactTermTextUptoCardSaid : Prop := Claim7.holds Tryd.pinned (.plain (OpenSpec.upto fnExactTermTextSpec)) fnExactTermTextUptoCard

/-- THE SECOND FORM's CARD OF 'laws.FnTermText'. -/
def fnTermTextUptoCard : Claim7 := { stood := { row := fnTermTextUptoRow, standIns := [], harness := (true, "4de6b2dfc32db23e0391d1cca41509f080d1ecf6bfde7b12845c41c5c42d70a5"), looks := false }, kinds := [], alts := [], laidByText := true, laidKinds := [.data, .data, .data], laidTests := true, laidLooks := .later }
def FnTermTextUptoCardSaid : Prop := Claim7.holds Tryd.pinned (.plain (OpenSpec.upto fnTermTextSpec)) fnTermTextUptoCard

/-- THE SECOND FORM's CARD OF 'laws.FnExactGraphOf'. -/
def fnExactGraphOfUptoCard : Claim7 := { stood := { row := fnExactGraphOfUptoRow, standIns := [], harness := (true, "4de6b2dfc32db23e0391d1cca41509f080d1ecf6bfde7b12845c41c5c42d70a5"), looks := false }, kinds := [], alts := [], laidByText := true, laidKinds := [.data, .data, .data], laidTests := true, laidLooks := .later }
def FnExactGraphOfUptoCardSaid : Prop := Claim7.holds Tryd.pinned (.plain (OpenSpec.upto fnExactGraphOfSpec)) fnExactGraphOfUptoCard

/-- THE SECOND FORM's CARD OF 'laws.FnTermOk'. -/
def fnTermOkUptoCard : Claim7 := { stood := { row := fnTermOkUptoRow, standIns := [], harness := (true, "4de6b2dfc32db23e0391d1cca41509f080d1ecf6bfde7b12845c41c5c42d70a5"), looks := false }, kinds := [], alts := [], laidByText := true, laidKinds := [.data, .data, .data], laidTests := true, laidLooks := .later }
def FnTermOkUptoCardSaid : Prop := Claim7.holds Tryd.pinned (.plain (OpenSpec.upto fnTermOkSpec)) fnTermOkUptoCard

/-- THE SECOND FORM's CARD OF 'laws.FnExactTermRead'. -/
def fnExactTermReadUptoCard : Claim7 := { stood := { row := fnExactTermReadUptoRow, standIns := [], harness := (true, "4de6b2dfc32db23e0391d1cca41509f080d1ecf6bfde7b12845c41c5c42d70a5"), looks := false }, kinds := [], alts := [], laidByText := true, laidKinds := [.data, .data, .data], laidTests := true, laidLooks := .later }
def FnExactTermReadUptoCardSaid : Prop := Claim7.holds Tryd.pinned (.plain (OpenSpec.upto fnExactTermReadSpec)) fnExactTermReadUptoCard

/-- THE SECOND FORM's CARD OF 'laws.FnTermRead'. -/
def fnTermReadUptoCard : Claim7 := { stood := { row := fnTermReadUptoRow, standIns := [], harness := (true, "4de6b2dfc32db23e0391d1cca41509f080d1ecf6bfde7b12845c41c5c42d70a5"), looks := false }, kinds := [], alts := [], laidByText := true, laidKinds := [.data, .data, .data], laidTests := true, laidLooks := .later }
def FnTermReadUptoCardSaid : Prop := Claim7.holds Tryd.pinned (.plain (OpenSpec.upto fnTermReadSpec)) fnTermReadUptoCard
end Rows
end Go.Proofs.YtpkgcdpebomalaaDoor
