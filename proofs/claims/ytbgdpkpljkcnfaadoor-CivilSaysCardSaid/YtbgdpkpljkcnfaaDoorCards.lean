/-
  DERIVED. GIVEN WITH THE SEED: THE CARDS: each row of YtbgdpkpljkcnfaaDoorRows.lean that lists a variable, with what it lists TIED to the program's text (the seventh form; the later family's looks); each row that meets fmt, with fmt's text TOLD by the authors' own Lean function (tested against real Go, not proved from fmt's source: count such statements apart). THE CARD IS WHAT COUNTS. Prove the row's statement (the work); the ties are given (YtbgdpkpljkcnfaaDoorTie.lean); close each card by the builder's one call (the guide's Derived/Test/ToyasCard.lean, 'card_holds'). Laid BY PROGRAM, IN A SANDBOX (cutbox-door.mjs). By AI agents, Wed Nov 11 2026. No macro, syntax, notation, axiom, sorry.
-/
import Derived.Test.YtbgdpkpljkcnfaaDoorRows
import GoSem.ClaimSeven
namespace Go.Proofs.YtbgdpkpljkcnfaaDoor
namespace Rows

/-- THE TIED CARD OF 'hourglasslaw4.CivilSays'. -/
def civilSaysCard : Claim7 := { stood := { row := civilSaysRow, standIns := [], harness := (true, "5cb563894724a6d84c346ab9732d1524aa4dcd0eafe876d13326f5a42a4d7ca6"), looks := false }, kinds := [], alts := [], laidByText := true, laidKinds := [.data, .data, .data], laidTests := true, laidLooks := .later }
def CivilSaysCardSaid : Prop := Claim7.holds Tryd.pinned (.plain (OpenSpec.ofChange civilSaysSpec)) civilSaysCard

/-- THE TIED CARD OF 'hourglasslaw4.CivilNext'. -/
def civilNextCard : Claim7 := { stood := { row := civilNextRow, standIns := [], harness := (true, "5cb563894724a6d84c346ab9732d1524aa4dcd0eafe876d13326f5a42a4d7ca6"), looks := false }, kinds := [], alts := [], laidByText := true, laidKinds := [.data, .data, .data], laidTests := true, laidLooks := .later }
def CivilNextCardSaid : Prop := Claim7.holds Tryd.pinned (.plain (OpenSpec.ofChange civilNextSpec)) civilNextCard

/-- THE TIED CARD OF 'hourglasslaw4.CivilYears'. -/
def civilYearsCard : Claim7 := { stood := { row := civilYearsRow, standIns := [], harness := (true, "5cb563894724a6d84c346ab9732d1524aa4dcd0eafe876d13326f5a42a4d7ca6"), looks := false }, kinds := [], alts := [], laidByText := true, laidKinds := [.data, .data, .data], laidTests := true, laidLooks := .later }
def CivilYearsCardSaid : Prop := Claim7.holds Tryd.pinned (.plain (OpenSpec.ofChange civilYearsSpec)) civilYearsCard

/-- THE TIED CARD OF 'hourglasslaw4.CivilOrder'. -/
def civilOrderCard : Claim7 := { stood := { row := civilOrderRow, standIns := [], harness := (true, "5cb563894724a6d84c346ab9732d1524aa4dcd0eafe876d13326f5a42a4d7ca6"), looks := false }, kinds := [], alts := [], laidByText := true, laidKinds := [.data, .data, .data], laidTests := true, laidLooks := .later }
def CivilOrderCardSaid : Prop := Claim7.holds Tryd.pinned (.plain (OpenSpec.ofChange civilOrderSpec)) civilOrderCard

/-- THE TIED CARD OF 'hourglasslaw4.CivilMonths'. -/
def civilMonthsCard : Claim7 := { stood := { row := civilMonthsRow, standIns := [], harness := (true, "5cb563894724a6d84c346ab9732d1524aa4dcd0eafe876d13326f5a42a4d7ca6"), looks := false }, kinds := [], alts := [], laidByText := true, laidKinds := [.data, .data, .data], laidTests := true, laidLooks := .later }
def CivilMonthsCardSaid : Prop := Claim7.holds Tryd.pinned (.plain (OpenSpec.ofChange civilMonthsSpec)) civilMonthsCard

/-- THE TIED CARD OF 'hourglasslaw4.CivilKnown'. -/
def civilKnownCard : Claim7 := { stood := { row := civilKnownRow, standIns := [], harness := (true, "5cb563894724a6d84c346ab9732d1524aa4dcd0eafe876d13326f5a42a4d7ca6"), looks := false }, kinds := [], alts := [], laidByText := true, laidKinds := [.data, .data, .data], laidTests := true, laidLooks := .later }
def CivilKnownCardSaid : Prop := Claim7.holds Tryd.pinned (.plain (OpenSpec.ofChange civilKnownSpec)) civilKnownCard

/-- THE TIED CARD OF 'hourglasslaw4.CivilReads'. -/
def civilReadsCard : Claim7 := { stood := { row := civilReadsRow, standIns := [], harness := (true, "5cb563894724a6d84c346ab9732d1524aa4dcd0eafe876d13326f5a42a4d7ca6"), looks := false }, kinds := [], alts := [], laidByText := true, laidKinds := [.data, .data, .data], laidTests := true, laidLooks := .later }
def CivilReadsCardSaid : Prop := Claim7.holds Tryd.pinned (.plain (OpenSpec.ofChange civilReadsSpec)) civilReadsCard

/-- THE TIED CARD OF 'hourglasslaw4.CivilBack'. -/
def civilBackCard : Claim7 := { stood := { row := civilBackRow, standIns := [], harness := (true, "5cb563894724a6d84c346ab9732d1524aa4dcd0eafe876d13326f5a42a4d7ca6"), looks := false }, kinds := [], alts := [], laidByText := true, laidKinds := [.data, .data, .data], laidTests := true, laidLooks := .later }
def CivilBackCardSaid : Prop := Claim7.holds Tryd.pinned (.plain (OpenSpec.ofChange civilBackSpec)) civilBackCard

/-- THE SECOND FORM's CARD OF 'hourglasslaw4.CivilSays'. -/
def civilSaysUptoCard : Claim7 := { stood := { row := civilSaysUptoRow, standIns := [], harness := (true, "5cb563894724a6d84c346ab9732d1524aa4dcd0eafe876d13326f5a42a4d7ca6"), looks := false }, kinds := [], alts := [], laidByText := true, laidKinds := [.data, .data, .data], laidTests := true, laidLooks := .later }
def CivilSaysUptoCardSaid : Prop := Claim7.holds Tryd.pinned (.plain (OpenSpec.upto civilSaysSpec)) civilSaysUptoCard

/-- THE SECOND FORM's CARD OF 'hourglasslaw4.CivilNext'. -/
def civilNextUptoCard : Claim7 := { stood := { row := civilNextUptoRow, standIns := [], harness := (true, "5cb563894724a6d84c346ab9732d1524aa4dcd0eafe876d13326f5a42a4d7ca6"), looks := false }, kinds := [], alts := [], laidByText := true, laidKinds := [.data, .data, .data], laidTests := true, laidLooks := .later }
def CivilNextUptoCardSaid : Prop := Claim7.holds Tryd.pinned (.plain (OpenSpec.upto civilNextSpec)) civilNextUptoCard

/-- THE SECOND FORM's CARD OF 'hourglasslaw4.CivilYears'. -/
def civilYearsUptoCard : Claim7 := { stood := { row := civilYearsUptoRow, standIns := [], harness := (true, "5cb563894724a6d84c346ab9732d1524aa4dcd0eafe876d13326f5a42a4d7ca6"), looks := false }, kinds := [], alts := [], laidByText := true, laidKinds := [.data, .data, .data], laidTests := true, laidLooks := .later }
def CivilYearsUptoCardSaid : Prop := Claim7.holds Tryd.pinned (.plain (OpenSpec.upto civilYearsSpec)) civilYearsUptoCard

/-- THE SECOND FORM's CARD OF 'hourglasslaw4.CivilOrder'. -/
def civilOrderUptoCard : Claim7 := { stood := { row := civilOrderUptoRow, standIns := [], harness := (true, "5cb563894724a6d84c346ab9732d1524aa4dcd0eafe876d13326f5a42a4d7ca6"), looks := false }, kinds := [], alts := [], laidByText := true, laidKinds := [.data, .data, .data], laidTests := true, laidLooks := .later }
def CivilOrderUptoCardSaid : Prop := Claim7.holds Tryd.pinned (.plain (OpenSpec.upto civilOrderSpec)) civilOrderUptoCard

/-- THE SECOND FORM's CARD OF 'hourglasslaw4.CivilMonths'. -/
def civilMonthsUptoCard : Claim7 := { stood := { row := civilMonthsUptoRow, standIns := [], harness := (true, "5cb563894724a6d84c346ab9732d1524aa4dcd0eafe876d13326f5a42a4d7ca6"), looks := false }, kinds := [], alts := [], laidByText := true, laidKinds := [.data, .data, .data], laidTests := true, laidLooks := .later }
def CivilMonthsUptoCardSaid : Prop := Claim7.holds Tryd.pinned (.plain (OpenSpec.upto civilMonthsSpec)) civilMonthsUptoCard

/-- THE SECOND FORM's CARD OF 'hourglasslaw4.CivilKnown'. -/
def civilKnownUptoCard : Claim7 := { stood := { row := civilKnownUptoRow, standIns := [], harness := (true, "5cb563894724a6d84c346ab9732d1524aa4dcd0eafe876d13326f5a42a4d7ca6"), looks := false }, kinds := [], alts := [], laidByText := true, laidKinds := [.data, .data, .data], laidTests := true, laidLooks := .later }
def CivilKnownUptoCardSaid : Prop := Claim7.holds Tryd.pinned (.plain (OpenSpec.upto civilKnownSpec)) civilKnownUptoCard

/-- THE SECOND FORM's CARD OF 'hourglasslaw4.CivilReads'. -/
def civilReadsUptoCard : Claim7 := { stood := { row := civilReadsUptoRow, standIns := [], harness := (true, "5cb563894724a6d84c346ab9732d1524aa4dcd0eafe876d13326f5a42a4d7ca6"), looks := false }, kinds := [], alts := [], laidByText := true, laidKinds := [.data, .data, .data], laidTests := true, laidLooks := .later }
def CivilReadsUptoCardSaid : Prop := Claim7.holds Tryd.pinned (.plain (OpenSpec.upto civilReadsSpec)) civilReadsUptoCard

/-- THE SECOND FORM's CARD OF 'hourglasslaw4.CivilBack'. -/
def civilBackUptoCard : Claim7 := { stood := { row := civilBackUptoRow, standIns := [], harness := (true, "5cb563894724a6d84c346ab9732d1524aa4dcd0eafe876d13326f5a42a4d7ca6"), looks := false }, kinds := [], alts := [], laidByText := true, laidKinds := [.data, .data, .data], laidTests := true, laidLooks := .later }
def CivilBackUptoCardSaid : Prop := Claim7.holds Tryd.pinned (.plain (OpenSpec.upto civilBackSpec)) civilBackUptoCard
end Rows
end Go.Proofs.YtbgdpkpljkcnfaaDoor
