/-
  No cell of these rows narrows 'for every input' (looked for: loops, veiled, ifaces, maps, wideKeys, modest, calm, conditions, laid).
  DERIVED. THE GIVEN ROWS OF THIS SEAT. 4 by the template 'for every input the law returns true; each argument reads behind the call as it read before'; 0 by the template 'total and deterministic' (their statements: YtmnlncigaamdeaaTotals.lean).
  GIVEN WITH THE SEED: the statements are not yours to turn. If you find one false, say at which input.
  Laid BY PROGRAM, IN A SANDBOX (cutbox-rows.mjs): the forced cells as the released guide's own fill.sh prints them over the translation 85df6ab7c32b0e80… (all of the seat's roots in one cut). By AI agents, Wed Nov 11 2026. No macro, syntax, notation, axiom, sorry.
-/
import Derived.Test.YtmnlncigaamdeaaChecked
import GoSem.Claim
import GoSem.ClaimJoined
import GoSem.ClaimMapViews
import Derived.JoinedTies
import Derived.KernelRfl
namespace Go.Proofs.Ytmnlncigaamdeaa
/- THE CELL 'sum', in the pinned program and in every row, IS THE sha256 OF THE DUMP (.gsa) THAT YtmnlncigaamdeaaProg.lean LOADS. Nothing in Lean hashes anything: it is a label: what it is worth is what the hold of that sum in a sandbox is worth. -/
noncomputable def Try.pinned : Pinned := { name := "ytmnlncigaamdeaa", sum := "85df6ab7c32b0e8030f865209f061fa4c3fa1bf03864a4842da31ca17d6f5027", checked := Try.checked }
namespace Rows
def none {H : Type} : Left H := { results := [], args := [] }

/-- 'hourglasslaw22.SessOnce': WHATEVER THE INPUT: true; the input reads as it did. -/
def sessOnceSpec : ChangeSpec := { name := "sessOnce", fn := fun _ => fun
  | [d] => { results := [.lit (.bool true)], args := [d] }
  | _ => none }
def sessOnceRow : OpenClaim := { program := "ytmnlncigaamdeaa", sum := "85df6ab7c32b0e8030f865209f061fa4c3fa1bf03864a4842da31ca17d6f5027", func := "hourglass/hourglasslaw22.SessOnce", spec := "sessOnce", apart := false }
def SessOnceSaid : Prop := sessOnceRow.holds Try.pinned (OpenSpec.ofChange sessOnceSpec)

/-- ITS FALSE NEIGHBOUR: 'it returns false'. Refute it at one input. -/
def sessOnceWrong : ChangeSpec := { name := "sessOnce", fn := fun _ => fun
  | [d] => { results := [.lit (.bool false)], args := [d] }
  | _ => none }
def SessOnceWrongFalsely : Prop := sessOnceRow.holds Try.pinned (OpenSpec.ofChange sessOnceWrong)

/-- 'hourglasslaw22.SessApart': WHATEVER THE INPUT: true; the input reads as it did. -/
def sessApartSpec : ChangeSpec := { name := "sessApart", fn := fun _ => fun
  | [d] => { results := [.lit (.bool true)], args := [d] }
  | _ => none }
def sessApartRow : OpenClaim := { program := "ytmnlncigaamdeaa", sum := "85df6ab7c32b0e8030f865209f061fa4c3fa1bf03864a4842da31ca17d6f5027", func := "hourglass/hourglasslaw22.SessApart", spec := "sessApart", apart := false }
def SessApartSaid : Prop := sessApartRow.holds Try.pinned (OpenSpec.ofChange sessApartSpec)

/-- ITS FALSE NEIGHBOUR: 'it returns false'. Refute it at one input. -/
def sessApartWrong : ChangeSpec := { name := "sessApart", fn := fun _ => fun
  | [d] => { results := [.lit (.bool false)], args := [d] }
  | _ => none }
def SessApartWrongFalsely : Prop := sessApartRow.holds Try.pinned (OpenSpec.ofChange sessApartWrong)

/-- 'hourglasslaw22.SessKnown': WHATEVER THE INPUT: true; the input reads as it did. -/
def sessKnownSpec : ChangeSpec := { name := "sessKnown", fn := fun _ => fun
  | [] => { results := [.lit (.bool true)], args := [] }
  | _ => none }
def sessKnownRow : OpenClaim := { program := "ytmnlncigaamdeaa", sum := "85df6ab7c32b0e8030f865209f061fa4c3fa1bf03864a4842da31ca17d6f5027", func := "hourglass/hourglasslaw22.SessKnown", spec := "sessKnown", unfollowed := true, recurses := true, apart := false }
def SessKnownSaid : Prop := sessKnownRow.holds Try.pinned (OpenSpec.ofChange sessKnownSpec)

/-- ITS FALSE NEIGHBOUR: 'it returns false'. Refute it at one input. -/
def sessKnownWrong : ChangeSpec := { name := "sessKnown", fn := fun _ => fun
  | [] => { results := [.lit (.bool false)], args := [] }
  | _ => none }
def SessKnownWrongFalsely : Prop := sessKnownRow.holds Try.pinned (OpenSpec.ofChange sessKnownWrong)

/-- 'hourglasslaw22.SessPlays': WHATEVER THE INPUT: true; the input reads as it did. -/
def sessPlaysSpec : ChangeSpec := { name := "sessPlays", fn := fun _ => fun
  | [d1, d2] => { results := [.lit (.bool true)], args := [d1, d2] }
  | _ => none }
def sessPlaysRow : OpenClaim := { program := "ytmnlncigaamdeaa", sum := "85df6ab7c32b0e8030f865209f061fa4c3fa1bf03864a4842da31ca17d6f5027", func := "hourglass/hourglasslaw22.SessPlays", spec := "sessPlays", unfollowed := true, recurses := true, apart := false }
def SessPlaysSaid : Prop := sessPlaysRow.holds Try.pinned (OpenSpec.ofChange sessPlaysSpec)

/-- ITS FALSE NEIGHBOUR: 'it returns false'. Refute it at one input. -/
def sessPlaysWrong : ChangeSpec := { name := "sessPlays", fn := fun _ => fun
  | [d1, d2] => { results := [.lit (.bool false)], args := [d1, d2] }
  | _ => none }
def SessPlaysWrongFalsely : Prop := sessPlaysRow.holds Try.pinned (OpenSpec.ofChange sessPlaysWrong)

/- THE SECOND FORM. 'bulk': how many values and letters a reading holds, each counted each time it is reached (what is shared counts as often as it is met; a slice's spare places count too). A statement '..UptoSaid' is the law's where the arguments, and the package variables that the reading takes, are together of bulk at most 1048576: NARROWER than '..Said'. Prove '..Said' where nothing that the law and all that it calls make is longer than what came in: it says more and counts as full. Else prove '..UptoSaid'. A law counts once. -/
mutual
def uptoBulk {H : Type} : DataW H → Nat
  | .lit (.string bytes) => bytes.length + 1
  | .lit _ => 1
  | .nil => 1
  | .ptr d => uptoBulk d + 1
  | .slice elems spare => uptoBulkAll elems + uptoBulkAll spare + 1
  | .agg parts => uptoBulkAll parts + 1
  | .iface _ d => uptoBulk d + 1
  | .map entries => uptoBulkEntries entries + 1
  | .held _ => 1
def uptoBulkAll {H : Type} : List (DataW H) → Nat
  | [] => 0
  | d :: r => uptoBulk d + uptoBulkAll r
def uptoBulkEntries {H : Type} : List (Lit × DataW H) → Nat
  | [] => 0
  | x :: r => uptoBulkEntry x + uptoBulkEntries r
def uptoBulkEntry {H : Type} : Lit × DataW H → Nat
  | (.string bytes, d) => bytes.length + uptoBulk d + 1
  | (_, d) => uptoBulk d + 1
 end
def uptoSmall : (H : Type) → List (DataW H) → Bool := fun _ ds => decide (uptoBulkAll ds ≤ 1048576)
def OpenSpec.upto (s : _root_.Go.ChangeSpec) : _root_.Go.OpenSpec := { _root_.Go.OpenSpec.ofChange s with cond := some uptoSmall }

/-- 'hourglasslaw22.SessOnce', WHERE WHAT IT READS IS OF BULK AT MOST 1048576: true; the input reads as it did. -/
def sessOnceUptoRow : OpenClaim := { program := "ytmnlncigaamdeaa", sum := "85df6ab7c32b0e8030f865209f061fa4c3fa1bf03864a4842da31ca17d6f5027", func := "hourglass/hourglasslaw22.SessOnce", spec := "sessOnce", apart := false, narrowed := true }
def SessOnceUptoSaid : Prop := sessOnceUptoRow.holds Try.pinned (OpenSpec.upto sessOnceSpec)

/-- 'hourglasslaw22.SessApart', WHERE WHAT IT READS IS OF BULK AT MOST 1048576: true; the input reads as it did. -/
def sessApartUptoRow : OpenClaim := { program := "ytmnlncigaamdeaa", sum := "85df6ab7c32b0e8030f865209f061fa4c3fa1bf03864a4842da31ca17d6f5027", func := "hourglass/hourglasslaw22.SessApart", spec := "sessApart", apart := false, narrowed := true }
def SessApartUptoSaid : Prop := sessApartUptoRow.holds Try.pinned (OpenSpec.upto sessApartSpec)

/-- 'hourglasslaw22.SessKnown', WHERE WHAT IT READS IS OF BULK AT MOST 1048576: true; the input reads as it did. -/
def sessKnownUptoRow : OpenClaim := { program := "ytmnlncigaamdeaa", sum := "85df6ab7c32b0e8030f865209f061fa4c3fa1bf03864a4842da31ca17d6f5027", func := "hourglass/hourglasslaw22.SessKnown", spec := "sessKnown", unfollowed := true, recurses := true, apart := false, narrowed := true }
def SessKnownUptoSaid : Prop := sessKnownUptoRow.holds Try.pinned (OpenSpec.upto sessKnownSpec)

/-- 'hourglasslaw22.SessPlays', WHERE WHAT IT READS IS OF BULK AT MOST 1048576: true; the input reads as it did. -/
def sessPlaysUptoRow : OpenClaim := { program := "ytmnlncigaamdeaa", sum := "85df6ab7c32b0e8030f865209f061fa4c3fa1bf03864a4842da31ca17d6f5027", func := "hourglass/hourglasslaw22.SessPlays", spec := "sessPlays", unfollowed := true, recurses := true, apart := false, narrowed := true }
def SessPlaysUptoSaid : Prop := sessPlaysUptoRow.holds Try.pinned (OpenSpec.upto sessPlaysSpec)

end Rows
end Go.Proofs.Ytmnlncigaamdeaa
