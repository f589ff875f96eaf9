/-
  DERIVED. GIVEN WITH THE SEED: THE CARDS: each row of YthbodgnoadlbcaaGreatDoorRows.lean that lists a variable, with what it lists TIED to the program's text (the seventh form; the later family's looks); each row that meets fmt, with fmt's text TOLD by the authors' own Lean function (tested against real Go, not proved from fmt's source: count such statements apart). THE CARD IS WHAT COUNTS. Prove the row's statement (the work); the ties are given (YthbodgnoadlbcaaGreatDoorTie.lean); close each card by the builder's one call (the guide's Derived/Test/ToyasCard.lean, 'card_holds'). Laid BY PROGRAM, IN A SANDBOX (cutbox-door.mjs). By AI agents, Wed Nov 11 2026. No macro, syntax, notation, axiom, sorry.
-/
import Derived.Test.YthbodgnoadlbcaaGreatDoorRows
import GoSem.ClaimSeven
namespace Go.Proofs.YthbodgnoadlbcaaGreatDoor
namespace Rows

/-- THE TIED CARD OF 'laws.FnGraphOf'. -/
def fnGraphOfCard : Claim7 := { stood := { row := fnGraphOfRow, standIns := [], harness := (true, "4d9a0ad398c3c2133fa03bd7ac652263ef3a8428a2d1a896d6a604742c379737"), looks := false }, kinds := [], alts := [], laidByText := true, laidKinds := [.data, .data, .data], laidTests := true, laidLooks := .later }
def FnGraphOfCardSaid : Prop := Claim7.holds Tryz.pinned (.plain (OpenSpec.ofChange fnGraphOfSpec)) fnGraphOfCard

/-- THE TIED CARD OF 'laws.FnExactTermsAlike'. -/
def fnExactTermsAlikeCard : Claim7 := { stood := { row := fnExactTermsAlikeRow, standIns := [], harness := (true, "4d9a0ad398c3c2133fa03bd7ac652263ef3a8428a2d1a896d6a604742c379737"), looks := false }, kinds := [], alts := [], laidByText := true, laidKinds := [.data, .data, .data], laidTests := true, laidLooks := .later }
def FnExactTermsAlikeCardSaid : Prop := Claim7.holds Tryz.pinned (.plain (OpenSpec.ofChange fnExactTermsAlikeSpec)) fnExactTermsAlikeCard

/-- THE TIED CARD OF 'laws.FnTermsAlike'. -/
def fnTermsAlikeCard : Claim7 := { stood := { row := fnTermsAlikeRow, standIns := [], harness := (true, "4d9a0ad398c3c2133fa03bd7ac652263ef3a8428a2d1a896d6a604742c379737"), looks := false }, kinds := [], alts := [], laidByText := true, laidKinds := [.data, .data, .data], laidTests := true, laidLooks := .later }
def FnTermsAlikeCardSaid : Prop := Claim7.holds Tryz.pinned (.plain (OpenSpec.ofChange fnTermsAlikeSpec)) fnTermsAlikeCard

/-- THE TIED CARD OF 'laws.FnAlikeKept'. -/
def fnAlikeKeptCard : Claim7 := { stood := { row := fnAlikeKeptRow, standIns := [], harness := (true, "4d9a0ad398c3c2133fa03bd7ac652263ef3a8428a2d1a896d6a604742c379737"), looks := false }, kinds := [], alts := [], laidByText := true, laidKinds := [.data, .data, .data], laidTests := true, laidLooks := .later }
def FnAlikeKeptCardSaid : Prop := Claim7.holds Tryz.pinned (.plain (OpenSpec.ofChange fnAlikeKeptSpec)) fnAlikeKeptCard

/-- THE SECOND FORM's CARD OF 'laws.FnGraphOf'. -/
def fnGraphOfUptoCard : Claim7 := { stood := { row := fnGraphOfUptoRow, standIns := [], harness := (true, "4d9a0ad398c3c2133fa03bd7ac652263ef3a8428a2d1a896d6a604742c379737"), looks := false }, kinds := [], alts := [], laidByText := true, laidKinds := [.data, .data, .data], laidTests := true, laidLooks := .later }
def FnGraphOfUptoCardSaid : Prop := Claim7.holds Tryz.pinned (.plain (OpenSpec.upto fnGraphOfSpec)) fnGraphOfUptoCard

/-- THE SECOND FORM's CARD OF 'laws.FnExactTermsAlike'. -/
def fnExactTermsAlikeUptoCard : Claim7 := { stood := { row := fnExactTermsAlikeUptoRow, standIns := [], harness := (true, "4d9a0ad398c3c2133fa03bd7ac652263ef3a8428a2d1a896d6a604742c379737"), looks := false }, kinds := [], alts := [], laidByText := true, laidKinds := [.data, .data, .data], laidTests := true, laidLooks := .later }
def FnExactTermsAlikeUptoCardSaid : Prop := Claim7.holds Tryz.pinned (.plain (OpenSpec.upto fnExactTermsAlikeSpec)) fnExactTermsAlikeUptoCard

/-- THE SECOND FORM's CARD OF 'laws.FnTermsAlike'. -/
def fnTermsAlikeUptoCard : Claim7 := { stood := { row := fnTermsAlikeUptoRow, standIns := [], harness := (true, "4d9a0ad398c3c2133fa03bd7ac652263ef3a8428a2d1a896d6a604742c379737"), looks := false }, kinds := [], alts := [], laidByText := true, laidKinds := [.data, .data, .data], laidTests := true, laidLooks := .later }
def FnTermsAlikeUptoCardSaid : Prop := Claim7.holds Tryz.pinned (.plain (OpenSpec.upto fnTermsAlikeSpec)) fnTermsAlikeUptoCard

/-- THE SECOND FORM's CARD OF 'laws.FnAlikeKept'. -/
def fnAlikeKeptUptoCard : Claim7 := { stood := { row := fnAlikeKeptUptoRow, standIns := [], harness := (true, "4d9a0ad398c3c2133fa03bd7ac652263ef3a8428a2d1a896d6a604742c379737"), looks := false }, kinds := [], alts := [], laidByText := true, laidKinds := [.data, .data, .data], laidTests := true, laidLooks := .later }
def FnAlikeKeptUptoCardSaid : Prop := Claim7.holds Tryz.pinned (.plain (OpenSpec.upto fnAlikeKeptSpec)) fnAlikeKeptUptoCard
end Rows
end Go.Proofs.YthbodgnoadlbcaaGreatDoor
