/-
  DERIVED. GIVEN WITH THE SEED: THE CARDS: each row of YtdmicehmmmpjcaaDoorRows.lean that lists a variable, with what it lists TIED to the program's text (the seventh form; the later family's looks); each row that meets fmt, with fmt's text TOLD by the authors' own Lean function (tested against real Go, not proved from fmt's source: count such statements apart). THE CARD IS WHAT COUNTS. Prove the row's statement (the work); the ties are given (YtdmicehmmmpjcaaDoorTie.lean); close each card by the builder's one call (the guide's Derived/Test/ToyasCard.lean, 'card_holds'). Laid BY PROGRAM, IN A SANDBOX (cutbox-door.mjs). By AI agents, Wed Nov 11 2026. No macro, syntax, notation, axiom, sorry.
-/
import Derived.Test.YtdmicehmmmpjcaaDoorRows
import GoSem.ClaimSeven
namespace Go.Proofs.YtdmicehmmmpjcaaDoor
namespace Rows

/-- THE TIED CARD OF 'hourglasslaw6.StampBack'. -/
def stampBackCard : Claim7 := { stood := { row := stampBackRow, standIns := [], harness := (true, "66246feec53769304bd20467145510056c208249b2c269e99d8c0adfe3a2061e"), looks := false }, kinds := [], alts := [], laidByText := true, laidKinds := [.data, .data, .data], laidTests := true, laidLooks := .later }
def StampBackCardSaid : Prop := Claim7.holds Tryd.pinned (.plain (OpenSpec.ofChange stampBackSpec)) stampBackCard

/-- THE TIED CARD OF 'hourglasslaw6.StampOrder'. -/
def stampOrderCard : Claim7 := { stood := { row := stampOrderRow, standIns := [], harness := (true, "66246feec53769304bd20467145510056c208249b2c269e99d8c0adfe3a2061e"), looks := false }, kinds := [], alts := [], laidByText := true, laidKinds := [.data, .data, .data], laidTests := true, laidLooks := .later }
def StampOrderCardSaid : Prop := Claim7.holds Tryd.pinned (.plain (OpenSpec.ofChange stampOrderSpec)) stampOrderCard

/-- THE TIED CARD OF 'hourglasslaw6.StampNext'. -/
def stampNextCard : Claim7 := { stood := { row := stampNextRow, standIns := [], harness := (true, "66246feec53769304bd20467145510056c208249b2c269e99d8c0adfe3a2061e"), looks := false }, kinds := [], alts := [], laidByText := true, laidKinds := [.data, .data, .data], laidTests := true, laidLooks := .later }
def StampNextCardSaid : Prop := Claim7.holds Tryd.pinned (.plain (OpenSpec.ofChange stampNextSpec)) stampNextCard

/-- THE TIED CARD OF 'hourglasslaw6.StampKnown'. -/
def stampKnownCard : Claim7 := { stood := { row := stampKnownRow, standIns := [], harness := (true, "66246feec53769304bd20467145510056c208249b2c269e99d8c0adfe3a2061e"), looks := false }, kinds := [], alts := [], laidByText := true, laidKinds := [.data, .data, .data], laidTests := true, laidLooks := .later }
def StampKnownCardSaid : Prop := Claim7.holds Tryd.pinned (.plain (OpenSpec.ofChange stampKnownSpec)) stampKnownCard

/-- THE TIED CARD OF 'hourglasslaw6.StampSays'. -/
def stampSaysCard : Claim7 := { stood := { row := stampSaysRow, standIns := [], harness := (true, "66246feec53769304bd20467145510056c208249b2c269e99d8c0adfe3a2061e"), looks := false }, kinds := [], alts := [], laidByText := true, laidKinds := [.data, .data, .data], laidTests := true, laidLooks := .later }
def StampSaysCardSaid : Prop := Claim7.holds Tryd.pinned (.plain (OpenSpec.ofChange stampSaysSpec)) stampSaysCard

/-- THE SECOND FORM's CARD OF 'hourglasslaw6.StampBack'. -/
def stampBackUptoCard : Claim7 := { stood := { row := stampBackUptoRow, standIns := [], harness := (true, "66246feec53769304bd20467145510056c208249b2c269e99d8c0adfe3a2061e"), looks := false }, kinds := [], alts := [], laidByText := true, laidKinds := [.data, .data, .data], laidTests := true, laidLooks := .later }
def StampBackUptoCardSaid : Prop := Claim7.holds Tryd.pinned (.plain (OpenSpec.upto stampBackSpec)) stampBackUptoCard

/-- THE SECOND FORM's CARD OF 'hourglasslaw6.StampOrder'. -/
def stampOrderUptoCard : Claim7 := { stood := { row := stampOrderUptoRow, standIns := [], harness := (true, "66246feec53769304bd20467145510056c208249b2c269e99d8c0adfe3a2061e"), looks := false }, kinds := [], alts := [], laidByText := true, laidKinds := [.data, .data, .data], laidTests := true, laidLooks := .later }
def StampOrderUptoCardSaid : Prop := Claim7.holds Tryd.pinned (.plain (OpenSpec.upto stampOrderSpec)) stampOrderUptoCard

/-- THE SECOND FORM's CARD OF 'hourglasslaw6.StampNext'. -/
def stampNextUptoCard : Claim7 := { stood := { row := stampNextUptoRow, standIns := [], harness := (true, "66246feec53769304bd20467145510056c208249b2c269e99d8c0adfe3a2061e"), looks := false }, kinds := [], alts := [], laidByText := true, laidKinds := [.data, .data, .data], laidTests := true, laidLooks := .later }
def StampNextUptoCardSaid : Prop := Claim7.holds Tryd.pinned (.plain (OpenSpec.upto stampNextSpec)) stampNextUptoCard

/-- THE SECOND FORM's CARD OF 'hourglasslaw6.StampKnown'. -/
def stampKnownUptoCard : Claim7 := { stood := { row := stampKnownUptoRow, standIns := [], harness := (true, "66246feec53769304bd20467145510056c208249b2c269e99d8c0adfe3a2061e"), looks := false }, kinds := [], alts := [], laidByText := true, laidKinds := [.data, .data, .data], laidTests := true, laidLooks := .later }
def StampKnownUptoCardSaid : Prop := Claim7.holds Tryd.pinned (.plain (OpenSpec.upto stampKnownSpec)) stampKnownUptoCard

/-- THE SECOND FORM's CARD OF 'hourglasslaw6.StampSays'. -/
def stampSaysUptoCard : Claim7 := { stood := { row := stampSaysUptoRow, standIns := [], harness := (true, "66246feec53769304bd20467145510056c208249b2c269e99d8c0adfe3a2061e"), looks := false }, kinds := [], alts := [], laidByText := true, laidKinds := [.data, .data, .data], laidTests := true, laidLooks := .later }
def StampSaysUptoCardSaid : Prop := Claim7.holds Tryd.pinned (.plain (OpenSpec.upto stampSaysSpec)) stampSaysUptoCard
end Rows
end Go.Proofs.YtdmicehmmmpjcaaDoor
