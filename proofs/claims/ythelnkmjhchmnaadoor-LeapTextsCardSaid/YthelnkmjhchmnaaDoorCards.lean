/-
  DERIVED. GIVEN WITH THE SEED: THE CARDS: each row of YthelnkmjhchmnaaDoorRows.lean that lists a variable, with what it lists TIED to the program's text (the seventh form; the later family's looks); each row that meets fmt, with fmt's text TOLD by the authors' own Lean function (tested against real Go, not proved from fmt's source: count such statements apart). THE CARD IS WHAT COUNTS. Prove the row's statement (the work); the ties are given (YthelnkmjhchmnaaDoorTie.lean); close each card by the builder's one call (the guide's Derived/Test/ToyasCard.lean, 'card_holds'). Laid BY PROGRAM, IN A SANDBOX (cutbox-door.mjs). By AI agents, Wed Nov 11 2026. No macro, syntax, notation, axiom, sorry.
-/
import Derived.Test.YthelnkmjhchmnaaDoorRows
import GoSem.ClaimSeven
namespace Go.Proofs.YthelnkmjhchmnaaDoor
namespace Rows

/-- THE TIED CARD OF 'hourglasslaw5.LeapBack'. -/
def leapBackCard : Claim7 := { stood := { row := leapBackRow, standIns := [], harness := (true, "55a3f6569e42038da73e465d96eb95f9d36c78713b8713ad639544fe4046a483"), looks := true }, kinds := [], alts := [], laidByText := true, laidKinds := [.data, .data, .data, .data, .sentinel, .sentinel, .pinned], laidTests := true, laidLooks := .later }
def LeapBackCardSaid : Prop := Claim7.holds Tryd.pinned (.plain (OpenSpec.ofChange leapBackSpec)) leapBackCard

/-- THE TIED CARD OF 'hourglasslaw5.LeapRises'. -/
def leapRisesCard : Claim7 := { stood := { row := leapRisesRow, standIns := [], harness := (true, "55a3f6569e42038da73e465d96eb95f9d36c78713b8713ad639544fe4046a483"), looks := true }, kinds := [], alts := [], laidByText := true, laidKinds := [.data, .data, .data, .data, .sentinel, .sentinel, .pinned], laidTests := true, laidLooks := .later }
def LeapRisesCardSaid : Prop := Claim7.holds Tryd.pinned (.plain (OpenSpec.ofChange leapRisesSpec)) leapRisesCard

/-- THE TIED CARD OF 'hourglasslaw5.LeapSteps'. -/
def leapStepsCard : Claim7 := { stood := { row := leapStepsRow, standIns := [], harness := (true, "55a3f6569e42038da73e465d96eb95f9d36c78713b8713ad639544fe4046a483"), looks := true }, kinds := [], alts := [], laidByText := true, laidKinds := [.data, .data, .data, .data, .sentinel, .sentinel, .pinned], laidTests := true, laidLooks := .later }
def LeapStepsCardSaid : Prop := Claim7.holds Tryd.pinned (.plain (OpenSpec.ofChange leapStepsSpec)) leapStepsCard

/-- THE TIED CARD OF 'hourglasslaw5.LeapTexts'. -/
def leapTextsCard : Claim7 := { stood := { row := leapTextsRow, standIns := [], harness := (true, "55a3f6569e42038da73e465d96eb95f9d36c78713b8713ad639544fe4046a483"), looks := true }, kinds := [], alts := [], laidByText := true, laidKinds := [.data, .data, .data, .data, .sentinel, .sentinel, .pinned], laidTests := true, laidLooks := .later }
def LeapTextsCardSaid : Prop := Claim7.holds Tryd.pinned (.plain (OpenSpec.ofChange leapTextsSpec)) leapTextsCard

/-- THE TIED CARD OF 'hourglasslaw5.LeapPlain'. -/
def leapPlainCard : Claim7 := { stood := { row := leapPlainRow, standIns := [], harness := (true, "55a3f6569e42038da73e465d96eb95f9d36c78713b8713ad639544fe4046a483"), looks := true }, kinds := [], alts := [], laidByText := true, laidKinds := [.data, .data, .data, .data, .sentinel, .sentinel, .pinned], laidTests := true, laidLooks := .later }
def LeapPlainCardSaid : Prop := Claim7.holds Tryd.pinned (.plain (OpenSpec.ofChange leapPlainSpec)) leapPlainCard

/-- THE TIED CARD OF 'hourglasslaw5.LeapKnown'. -/
def leapKnownCard : Claim7 := { stood := { row := leapKnownRow, standIns := [], harness := (true, "55a3f6569e42038da73e465d96eb95f9d36c78713b8713ad639544fe4046a483"), looks := true }, kinds := [], alts := [], laidByText := true, laidKinds := [.data, .data, .data, .data, .sentinel, .sentinel, .pinned], laidTests := true, laidLooks := .later }
def LeapKnownCardSaid : Prop := Claim7.holds Tryd.pinned (.plain (OpenSpec.ofChange leapKnownSpec)) leapKnownCard

/-- THE SECOND FORM's CARD OF 'hourglasslaw5.LeapBack'. -/
def leapBackUptoCard : Claim7 := { stood := { row := leapBackUptoRow, standIns := [], harness := (true, "55a3f6569e42038da73e465d96eb95f9d36c78713b8713ad639544fe4046a483"), looks := true }, kinds := [], alts := [], laidByText := true, laidKinds := [.data, .data, .data, .data, .sentinel, .sentinel, .pinned], laidTests := true, laidLooks := .later }
def LeapBackUptoCardSaid : Prop := Claim7.holds Tryd.pinned (.plain (OpenSpec.upto leapBackSpec)) leapBackUptoCard

/-- THE SECOND FORM's CARD OF 'hourglasslaw5.LeapRises'. -/
def leapRisesUptoCard : Claim7 := { stood := { row := leapRisesUptoRow, standIns := [], harness := (true, "55a3f6569e42038da73e465d96eb95f9d36c78713b8713ad639544fe4046a483"), looks := true }, kinds := [], alts := [], laidByText := true, laidKinds := [.data, .data, .data, .data, .sentinel, .sentinel, .pinned], laidTests := true, laidLooks := .later }
def LeapRisesUptoCardSaid : Prop := Claim7.holds Tryd.pinned (.plain (OpenSpec.upto leapRisesSpec)) leapRisesUptoCard

/-- THE SECOND FORM's CARD OF 'hourglasslaw5.LeapSteps'. -/
def leapStepsUptoCard : Claim7 := { stood := { row := leapStepsUptoRow, standIns := [], harness := (true, "55a3f6569e42038da73e465d96eb95f9d36c78713b8713ad639544fe4046a483"), looks := true }, kinds := [], alts := [], laidByText := true, laidKinds := [.data, .data, .data, .data, .sentinel, .sentinel, .pinned], laidTests := true, laidLooks := .later }
def LeapStepsUptoCardSaid : Prop := Claim7.holds Tryd.pinned (.plain (OpenSpec.upto leapStepsSpec)) leapStepsUptoCard

/-- THE SECOND FORM's CARD OF 'hourglasslaw5.LeapTexts'. -/
def leapTextsUptoCard : Claim7 := { stood := { row := leapTextsUptoRow, standIns := [], harness := (true, "55a3f6569e42038da73e465d96eb95f9d36c78713b8713ad639544fe4046a483"), looks := true }, kinds := [], alts := [], laidByText := true, laidKinds := [.data, .data, .data, .data, .sentinel, .sentinel, .pinned], laidTests := true, laidLooks := .later }
def LeapTextsUptoCardSaid : Prop := Claim7.holds Tryd.pinned (.plain (OpenSpec.upto leapTextsSpec)) leapTextsUptoCard

/-- THE SECOND FORM's CARD OF 'hourglasslaw5.LeapPlain'. -/
def leapPlainUptoCard : Claim7 := { stood := { row := leapPlainUptoRow, standIns := [], harness := (true, "55a3f6569e42038da73e465d96eb95f9d36c78713b8713ad639544fe4046a483"), looks := true }, kinds := [], alts := [], laidByText := true, laidKinds := [.data, .data, .data, .data, .sentinel, .sentinel, .pinned], laidTests := true, laidLooks := .later }
def LeapPlainUptoCardSaid : Prop := Claim7.holds Tryd.pinned (.plain (OpenSpec.upto leapPlainSpec)) leapPlainUptoCard

/-- THE SECOND FORM's CARD OF 'hourglasslaw5.LeapKnown'. -/
def leapKnownUptoCard : Claim7 := { stood := { row := leapKnownUptoRow, standIns := [], harness := (true, "55a3f6569e42038da73e465d96eb95f9d36c78713b8713ad639544fe4046a483"), looks := true }, kinds := [], alts := [], laidByText := true, laidKinds := [.data, .data, .data, .data, .sentinel, .sentinel, .pinned], laidTests := true, laidLooks := .later }
def LeapKnownUptoCardSaid : Prop := Claim7.holds Tryd.pinned (.plain (OpenSpec.upto leapKnownSpec)) leapKnownUptoCard
end Rows
end Go.Proofs.YthelnkmjhchmnaaDoor
