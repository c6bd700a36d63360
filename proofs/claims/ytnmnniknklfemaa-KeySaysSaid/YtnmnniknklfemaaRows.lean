/-
  No cell of these rows narrows 'for every input' (looked for: loops, veiled, ifaces, maps, wideKeys, modest, calm, conditions, laid).
  DERIVED. THE GIVEN ROWS OF THIS SEAT. 6 by the template 'for every input the law returns true; each argument reads behind the call as it read before'; 0 by the template 'total and deterministic' (their statements: YtnmnniknklfemaaTotals.lean).
  GIVEN WITH THE SEED: the statements are not yours to turn. If you find one false, say at which input.
  Laid BY PROGRAM, IN A SANDBOX (cutbox-rows.mjs): the forced cells as the released guide's own fill.sh prints them over the translation a11ae0ba304f2f09… (all of the seat's roots in one cut). By AI agents, Wed Nov 11 2026. No macro, syntax, notation, axiom, sorry.
-/
import Derived.Test.YtnmnniknklfemaaChecked
import GoSem.Claim
import GoSem.ClaimJoined
import GoSem.ClaimMapViews
import Derived.JoinedTies
import Derived.KernelRfl
namespace Go.Proofs.Ytnmnniknklfemaa
/- THE CELL 'sum', in the pinned program and in every row, IS THE sha256 OF THE DUMP (.gsa) THAT YtnmnniknklfemaaProg.lean LOADS. Nothing in Lean hashes anything: it is a label: what it is worth is what the hold of that sum in a sandbox is worth. -/
noncomputable def Try.pinned : Pinned := { name := "ytnmnniknklfemaa", sum := "a11ae0ba304f2f097f0ce950c60f65f32c6ff843caf41302e574ff03628d6341", checked := Try.checked }
namespace Rows
def none {H : Type} : Left H := { results := [], args := [] }

/-- 'hourglasslaw10.KeyBack': WHATEVER THE INPUT: true; the input reads as it did. -/
def keyBackSpec : ChangeSpec := { name := "keyBack", fn := fun _ => fun
  | [d1, d2] => { results := [.lit (.bool true)], args := [d1, d2] }
  | _ => none }
def keyBackRow : OpenClaim := { program := "ytnmnniknklfemaa", sum := "a11ae0ba304f2f097f0ce950c60f65f32c6ff843caf41302e574ff03628d6341", func := "hourglass/hourglasslaw10.KeyBack", spec := "keyBack", inPlace := ["internal/bytealg.IndexByteString", "internal/bytealg.Compare"], apart := false }
def KeyBackSaid : Prop := keyBackRow.holds Try.pinned (OpenSpec.ofChange keyBackSpec)

/-- ITS FALSE NEIGHBOUR: 'it returns false'. Refute it at one input. -/
def keyBackWrong : ChangeSpec := { name := "keyBack", fn := fun _ => fun
  | [d1, d2] => { results := [.lit (.bool false)], args := [d1, d2] }
  | _ => none }
def KeyBackWrongFalsely : Prop := keyBackRow.holds Try.pinned (OpenSpec.ofChange keyBackWrong)

/-- 'hourglasslaw10.KeyOrder': WHATEVER THE INPUT: true; the input reads as it did. -/
def keyOrderSpec : ChangeSpec := { name := "keyOrder", fn := fun _ => fun
  | [d1, d2] => { results := [.lit (.bool true)], args := [d1, d2] }
  | _ => none }
def keyOrderRow : OpenClaim := { program := "ytnmnniknklfemaa", sum := "a11ae0ba304f2f097f0ce950c60f65f32c6ff843caf41302e574ff03628d6341", func := "hourglass/hourglasslaw10.KeyOrder", spec := "keyOrder", inPlace := ["internal/bytealg.IndexByteString", "internal/bytealg.Compare"], apart := false }
def KeyOrderSaid : Prop := keyOrderRow.holds Try.pinned (OpenSpec.ofChange keyOrderSpec)

/-- ITS FALSE NEIGHBOUR: 'it returns false'. Refute it at one input. -/
def keyOrderWrong : ChangeSpec := { name := "keyOrder", fn := fun _ => fun
  | [d1, d2] => { results := [.lit (.bool false)], args := [d1, d2] }
  | _ => none }
def KeyOrderWrongFalsely : Prop := keyOrderRow.holds Try.pinned (OpenSpec.ofChange keyOrderWrong)

/-- 'hourglasslaw10.KeyWithin': WHATEVER THE INPUT: true; the input reads as it did. -/
def keyWithinSpec : ChangeSpec := { name := "keyWithin", fn := fun _ => fun
  | [d1, d2, d3, d4] => { results := [.lit (.bool true)], args := [d1, d2, d3, d4] }
  | _ => none }
def keyWithinRow : OpenClaim := { program := "ytnmnniknklfemaa", sum := "a11ae0ba304f2f097f0ce950c60f65f32c6ff843caf41302e574ff03628d6341", func := "hourglass/hourglasslaw10.KeyWithin", spec := "keyWithin", inPlace := ["internal/bytealg.IndexByteString", "internal/bytealg.Compare"], apart := false }
def KeyWithinSaid : Prop := keyWithinRow.holds Try.pinned (OpenSpec.ofChange keyWithinSpec)

/-- ITS FALSE NEIGHBOUR: 'it returns false'. Refute it at one input. -/
def keyWithinWrong : ChangeSpec := { name := "keyWithin", fn := fun _ => fun
  | [d1, d2, d3, d4] => { results := [.lit (.bool false)], args := [d1, d2, d3, d4] }
  | _ => none }
def KeyWithinWrongFalsely : Prop := keyWithinRow.holds Try.pinned (OpenSpec.ofChange keyWithinWrong)

/-- 'hourglasslaw10.KeySorts': WHATEVER THE INPUT: true; the input reads as it did. -/
def keySortsSpec : ChangeSpec := { name := "keySorts", fn := fun _ => fun
  | [d1, d2] => { results := [.lit (.bool true)], args := [d1, d2] }
  | _ => none }
def keySortsRow : OpenClaim := { program := "ytnmnniknklfemaa", sum := "a11ae0ba304f2f097f0ce950c60f65f32c6ff843caf41302e574ff03628d6341", func := "hourglass/hourglasslaw10.KeySorts", spec := "keySorts", inPlace := ["internal/bytealg.IndexByteString", "internal/bytealg.Compare"], unfollowed := true, recurses := true, apart := false }
def KeySortsSaid : Prop := keySortsRow.holds Try.pinned (OpenSpec.ofChange keySortsSpec)

/-- ITS FALSE NEIGHBOUR: 'it returns false'. Refute it at one input. -/
def keySortsWrong : ChangeSpec := { name := "keySorts", fn := fun _ => fun
  | [d1, d2] => { results := [.lit (.bool false)], args := [d1, d2] }
  | _ => none }
def KeySortsWrongFalsely : Prop := keySortsRow.holds Try.pinned (OpenSpec.ofChange keySortsWrong)

/-- 'hourglasslaw10.KeyKnown': WHATEVER THE INPUT: true; the input reads as it did. -/
def keyKnownSpec : ChangeSpec := { name := "keyKnown", fn := fun _ => fun
  | [] => { results := [.lit (.bool true)], args := [] }
  | _ => none }
def keyKnownRow : OpenClaim := { program := "ytnmnniknklfemaa", sum := "a11ae0ba304f2f097f0ce950c60f65f32c6ff843caf41302e574ff03628d6341", func := "hourglass/hourglasslaw10.KeyKnown", spec := "keyKnown", inPlace := ["internal/bytealg.IndexByteString", "internal/bytealg.Compare"], unfollowed := true, recurses := true, apart := false }
def KeyKnownSaid : Prop := keyKnownRow.holds Try.pinned (OpenSpec.ofChange keyKnownSpec)

/-- ITS FALSE NEIGHBOUR: 'it returns false'. Refute it at one input. -/
def keyKnownWrong : ChangeSpec := { name := "keyKnown", fn := fun _ => fun
  | [] => { results := [.lit (.bool false)], args := [] }
  | _ => none }
def KeyKnownWrongFalsely : Prop := keyKnownRow.holds Try.pinned (OpenSpec.ofChange keyKnownWrong)

/-- 'hourglasslaw10.KeySays': WHATEVER THE INPUT: true; the input reads as it did. -/
def keySaysSpec : ChangeSpec := { name := "keySays", fn := fun _ => fun
  | [d1, d2, d3, d4, d5] => { results := [.lit (.bool true)], args := [d1, d2, d3, d4, d5] }
  | _ => none }
def keySaysRow : OpenClaim := { program := "ytnmnniknklfemaa", sum := "a11ae0ba304f2f097f0ce950c60f65f32c6ff843caf41302e574ff03628d6341", func := "hourglass/hourglasslaw10.KeySays", spec := "keySays", inPlace := ["internal/bytealg.IndexByteString", "internal/bytealg.Compare"], unfollowed := true, recurses := true, apart := false }
def KeySaysSaid : Prop := keySaysRow.holds Try.pinned (OpenSpec.ofChange keySaysSpec)

/-- ITS FALSE NEIGHBOUR: 'it returns false'. Refute it at one input. -/
def keySaysWrong : ChangeSpec := { name := "keySays", fn := fun _ => fun
  | [d1, d2, d3, d4, d5] => { results := [.lit (.bool false)], args := [d1, d2, d3, d4, d5] }
  | _ => none }
def KeySaysWrongFalsely : Prop := keySaysRow.holds Try.pinned (OpenSpec.ofChange keySaysWrong)

/- THE SECOND FORM. 'bulk': how many values and letters a reading holds, each counted each time it is reached (what is shared counts as often as it is met; a slice's spare places count too). A statement '..UptoSaid' is the law's where the arguments, and the package variables that the reading takes, are together of bulk at most 1048576: NARROWER than '..Said'. Prove '..Said' where nothing that the law and all that it calls make is longer than what came in: it says more and counts as full. Else prove '..UptoSaid'. A law counts once. -/
mutual
def uptoBulk {H : Type} : DataW H → Nat
  | .lit (.string bytes) => bytes.length + 1
  | .lit _ => 1
  | .nil => 1
  | .ptr d => uptoBulk d + 1
  | .slice elems spare => uptoBulkAll elems + uptoBulkAll spare + 1
  | .agg parts => uptoBulkAll parts + 1
  | .iface _ d => uptoBulk d + 1
  | .map entries => uptoBulkEntries entries + 1
  | .held _ => 1
def uptoBulkAll {H : Type} : List (DataW H) → Nat
  | [] => 0
  | d :: r => uptoBulk d + uptoBulkAll r
def uptoBulkEntries {H : Type} : List (Lit × DataW H) → Nat
  | [] => 0
  | x :: r => uptoBulkEntry x + uptoBulkEntries r
def uptoBulkEntry {H : Type} : Lit × DataW H → Nat
  | (.string bytes, d) => bytes.length + uptoBulk d + 1
  | (_, d) => uptoBulk d + 1
 end
def uptoSmall : (H : Type) → List (DataW H) → Bool := fun _ ds => decide (uptoBulkAll ds ≤ 1048576)
def OpenSpec.upto (s : _root_.Go.ChangeSpec) : _root_.Go.OpenSpec := { _root_.Go.OpenSpec.ofChange s with cond := some uptoSmall }

/-- 'hourglasslaw10.KeyBack', WHERE WHAT IT READS IS OF BULK AT MOST 1048576: true; the input reads as it did. -/
def keyBackUptoRow : OpenClaim := { program := "ytnmnniknklfemaa", sum := "a11ae0ba304f2f097f0ce950c60f65f32c6ff843caf41302e574ff03628d6341", func := "hourglass/hourglasslaw10.KeyBack", spec := "keyBack", inPlace := ["internal/bytealg.IndexByteString", "internal/bytealg.Compare"], apart := false, narrowed := true }
def KeyBackUptoSaid : Prop := keyBackUptoRow.holds Try.pinned (OpenSpec.upto keyBackSpec)

/-- 'hourglasslaw10.KeyOrder', WHERE WHAT IT READS IS OF BULK AT MOST 1048576: true; the input reads as it did. -/
def keyOrderUptoRow : OpenClaim := { program := "ytnmnniknklfemaa", sum := "a11ae0ba304f2f097f0ce950c60f65f32c6ff843caf41302e574ff03628d6341", func := "hourglass/hourglasslaw10.KeyOrder", spec := "keyOrder", inPlace := ["internal/bytealg.IndexByteString", "internal/bytealg.Compare"], apart := false, narrowed := true }
def KeyOrderUptoSaid : Prop := keyOrderUptoRow.holds Try.pinned (OpenSpec.upto keyOrderSpec)

/-- 'hourglasslaw10.KeyWithin', WHERE WHAT IT READS IS OF BULK AT MOST 1048576: true; the input reads as it did. -/
def keyWithinUptoRow : OpenClaim := { program := "ytnmnniknklfemaa", sum := "a11ae0ba304f2f097f0ce950c60f65f32c6ff843caf41302e574ff03628d6341", func := "hourglass/hourglasslaw10.KeyWithin", spec := "keyWithin", inPlace := ["internal/bytealg.IndexByteString", "internal/bytealg.Compare"], apart := false, narrowed := true }
def KeyWithinUptoSaid : Prop := keyWithinUptoRow.holds Try.pinned (OpenSpec.upto keyWithinSpec)

/-- 'hourglasslaw10.KeySorts', WHERE WHAT IT READS IS OF BULK AT MOST 1048576: true; the input reads as it did. -/
def keySortsUptoRow : OpenClaim := { program := "ytnmnniknklfemaa", sum := "a11ae0ba304f2f097f0ce950c60f65f32c6ff843caf41302e574ff03628d6341", func := "hourglass/hourglasslaw10.KeySorts", spec := "keySorts", inPlace := ["internal/bytealg.IndexByteString", "internal/bytealg.Compare"], unfollowed := true, recurses := true, apart := false, narrowed := true }
def KeySortsUptoSaid : Prop := keySortsUptoRow.holds Try.pinned (OpenSpec.upto keySortsSpec)

/-- 'hourglasslaw10.KeyKnown', WHERE WHAT IT READS IS OF BULK AT MOST 1048576: true; the input reads as it did. -/
def keyKnownUptoRow : OpenClaim := { program := "ytnmnniknklfemaa", sum := "a11ae0ba304f2f097f0ce950c60f65f32c6ff843caf41302e574ff03628d6341", func := "hourglass/hourglasslaw10.KeyKnown", spec := "keyKnown", inPlace := ["internal/bytealg.IndexByteString", "internal/bytealg.Compare"], unfollowed := true, recurses := true, apart := false, narrowed := true }
def KeyKnownUptoSaid : Prop := keyKnownUptoRow.holds Try.pinned (OpenSpec.upto keyKnownSpec)

/-- 'hourglasslaw10.KeySays', WHERE WHAT IT READS IS OF BULK AT MOST 1048576: true; the input reads as it did. -/
def keySaysUptoRow : OpenClaim := { program := "ytnmnniknklfemaa", sum := "a11ae0ba304f2f097f0ce950c60f65f32c6ff843caf41302e574ff03628d6341", func := "hourglass/hourglasslaw10.KeySays", spec := "keySays", inPlace := ["internal/bytealg.IndexByteString", "internal/bytealg.Compare"], unfollowed := true, recurses := true, apart := false, narrowed := true }
def KeySaysUptoSaid : Prop := keySaysUptoRow.holds Try.pinned (OpenSpec.upto keySaysSpec)

end Rows
end Go.Proofs.Ytnmnniknklfemaa
