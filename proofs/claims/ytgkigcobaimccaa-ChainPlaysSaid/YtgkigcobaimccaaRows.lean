/-
  No cell of these rows narrows 'for every input' (looked for: loops, veiled, ifaces, maps, wideKeys, modest, calm, conditions, laid).
  DERIVED. THE GIVEN ROWS OF THIS SEAT. 5 by the template 'for every input the law returns true; each argument reads behind the call as it read before'; 0 by the template 'total and deterministic' (their statements: YtgkigcobaimccaaTotals.lean).
  GIVEN WITH THE SEED: the statements are not yours to turn. If you find one false, say at which input.
  Laid BY PROGRAM, IN A SANDBOX (cutbox-rows.mjs): the forced cells as the released guide's own fill.sh prints them over the translation 72772db8dcae1397… (all of the seat's roots in one cut). By AI agents, Wed Nov 11 2026. No macro, syntax, notation, axiom, sorry.
-/
import Derived.Test.YtgkigcobaimccaaChecked
import GoSem.Claim
import GoSem.ClaimJoined
import GoSem.ClaimMapViews
import Derived.JoinedTies
import Derived.KernelRfl
namespace Go.Proofs.Ytgkigcobaimccaa
/- THE CELL 'sum', in the pinned program and in every row, IS THE sha256 OF THE DUMP (.gsa) THAT YtgkigcobaimccaaProg.lean LOADS. Nothing in Lean hashes anything: it is a label: what it is worth is what the hold of that sum in a sandbox is worth. -/
noncomputable def Try.pinned : Pinned := { name := "ytgkigcobaimccaa", sum := "72772db8dcae139731bfd5595a9b5471125d407a1968fe954991f1d97e708ec7", checked := Try.checked }
namespace Rows
def none {H : Type} : Left H := { results := [], args := [] }

/-- 'hourglasslaw11.ChainSees': WHATEVER THE INPUT: true; the input reads as it did. -/
def chainSeesSpec : ChangeSpec := { name := "chainSees", fn := fun _ => fun
  | [d1, d2, d3] => { results := [.lit (.bool true)], args := [d1, d2, d3] }
  | _ => none }
def chainSeesRow : OpenClaim := { program := "ytgkigcobaimccaa", sum := "72772db8dcae139731bfd5595a9b5471125d407a1968fe954991f1d97e708ec7", func := "hourglass/hourglasslaw11.ChainSees", spec := "chainSees", inPlace := ["slices.overlaps[hourglass/chain.Version]"], unfollowed := true, recurses := true, apart := false }
def ChainSeesSaid : Prop := chainSeesRow.holds Try.pinned (OpenSpec.ofChange chainSeesSpec)

/-- ITS FALSE NEIGHBOUR: 'it returns false'. Refute it at one input. -/
def chainSeesWrong : ChangeSpec := { name := "chainSees", fn := fun _ => fun
  | [d1, d2, d3] => { results := [.lit (.bool false)], args := [d1, d2, d3] }
  | _ => none }
def ChainSeesWrongFalsely : Prop := chainSeesRow.holds Try.pinned (OpenSpec.ofChange chainSeesWrong)

/-- 'hourglasslaw11.ChainOrder': WHATEVER THE INPUT: true; the input reads as it did. -/
def chainOrderSpec : ChangeSpec := { name := "chainOrder", fn := fun _ => fun
  | [d] => { results := [.lit (.bool true)], args := [d] }
  | _ => none }
def chainOrderRow : OpenClaim := { program := "ytgkigcobaimccaa", sum := "72772db8dcae139731bfd5595a9b5471125d407a1968fe954991f1d97e708ec7", func := "hourglass/hourglasslaw11.ChainOrder", spec := "chainOrder", inPlace := ["slices.overlaps[hourglass/chain.Version]"], unfollowed := true, recurses := true, apart := false }
def ChainOrderSaid : Prop := chainOrderRow.holds Try.pinned (OpenSpec.ofChange chainOrderSpec)

/-- ITS FALSE NEIGHBOUR: 'it returns false'. Refute it at one input. -/
def chainOrderWrong : ChangeSpec := { name := "chainOrder", fn := fun _ => fun
  | [d] => { results := [.lit (.bool false)], args := [d] }
  | _ => none }
def ChainOrderWrongFalsely : Prop := chainOrderRow.holds Try.pinned (OpenSpec.ofChange chainOrderWrong)

/-- 'hourglasslaw11.ChainTrims': WHATEVER THE INPUT: true; the input reads as it did. -/
def chainTrimsSpec : ChangeSpec := { name := "chainTrims", fn := fun _ => fun
  | [d1, d2, d3] => { results := [.lit (.bool true)], args := [d1, d2, d3] }
  | _ => none }
def chainTrimsRow : OpenClaim := { program := "ytgkigcobaimccaa", sum := "72772db8dcae139731bfd5595a9b5471125d407a1968fe954991f1d97e708ec7", func := "hourglass/hourglasslaw11.ChainTrims", spec := "chainTrims", inPlace := ["slices.overlaps[hourglass/chain.Version]"], unfollowed := true, recurses := true, apart := false }
def ChainTrimsSaid : Prop := chainTrimsRow.holds Try.pinned (OpenSpec.ofChange chainTrimsSpec)

/-- ITS FALSE NEIGHBOUR: 'it returns false'. Refute it at one input. -/
def chainTrimsWrong : ChangeSpec := { name := "chainTrims", fn := fun _ => fun
  | [d1, d2, d3] => { results := [.lit (.bool false)], args := [d1, d2, d3] }
  | _ => none }
def ChainTrimsWrongFalsely : Prop := chainTrimsRow.holds Try.pinned (OpenSpec.ofChange chainTrimsWrong)

/-- 'hourglasslaw11.ChainKnown': WHATEVER THE INPUT: true; the input reads as it did. -/
def chainKnownSpec : ChangeSpec := { name := "chainKnown", fn := fun _ => fun
  | [] => { results := [.lit (.bool true)], args := [] }
  | _ => none }
def chainKnownRow : OpenClaim := { program := "ytgkigcobaimccaa", sum := "72772db8dcae139731bfd5595a9b5471125d407a1968fe954991f1d97e708ec7", func := "hourglass/hourglasslaw11.ChainKnown", spec := "chainKnown", inPlace := ["slices.overlaps[hourglass/chain.Version]"], unfollowed := true, recurses := true, apart := false }
def ChainKnownSaid : Prop := chainKnownRow.holds Try.pinned (OpenSpec.ofChange chainKnownSpec)

/-- ITS FALSE NEIGHBOUR: 'it returns false'. Refute it at one input. -/
def chainKnownWrong : ChangeSpec := { name := "chainKnown", fn := fun _ => fun
  | [] => { results := [.lit (.bool false)], args := [] }
  | _ => none }
def ChainKnownWrongFalsely : Prop := chainKnownRow.holds Try.pinned (OpenSpec.ofChange chainKnownWrong)

/-- 'hourglasslaw11.ChainPlays': WHATEVER THE INPUT: true; the input reads as it did. -/
def chainPlaysSpec : ChangeSpec := { name := "chainPlays", fn := fun _ => fun
  | [d1, d2] => { results := [.lit (.bool true)], args := [d1, d2] }
  | _ => none }
def chainPlaysRow : OpenClaim := { program := "ytgkigcobaimccaa", sum := "72772db8dcae139731bfd5595a9b5471125d407a1968fe954991f1d97e708ec7", func := "hourglass/hourglasslaw11.ChainPlays", spec := "chainPlays", inPlace := ["slices.overlaps[hourglass/chain.Version]"], unfollowed := true, recurses := true, apart := false }
def ChainPlaysSaid : Prop := chainPlaysRow.holds Try.pinned (OpenSpec.ofChange chainPlaysSpec)

/-- ITS FALSE NEIGHBOUR: 'it returns false'. Refute it at one input. -/
def chainPlaysWrong : ChangeSpec := { name := "chainPlays", fn := fun _ => fun
  | [d1, d2] => { results := [.lit (.bool false)], args := [d1, d2] }
  | _ => none }
def ChainPlaysWrongFalsely : Prop := chainPlaysRow.holds Try.pinned (OpenSpec.ofChange chainPlaysWrong)

/- THE SECOND FORM. 'bulk': how many values and letters a reading holds, each counted each time it is reached (what is shared counts as often as it is met; a slice's spare places count too). A statement '..UptoSaid' is the law's where the arguments, and the package variables that the reading takes, are together of bulk at most 1048576: NARROWER than '..Said'. Prove '..Said' where nothing that the law and all that it calls make is longer than what came in: it says more and counts as full. Else prove '..UptoSaid'. A law counts once. -/
mutual
def uptoBulk {H : Type} : DataW H → Nat
  | .lit (.string bytes) => bytes.length + 1
  | .lit _ => 1
  | .nil => 1
  | .ptr d => uptoBulk d + 1
  | .slice elems spare => uptoBulkAll elems + uptoBulkAll spare + 1
  | .agg parts => uptoBulkAll parts + 1
  | .iface _ d => uptoBulk d + 1
  | .map entries => uptoBulkEntries entries + 1
  | .held _ => 1
def uptoBulkAll {H : Type} : List (DataW H) → Nat
  | [] => 0
  | d :: r => uptoBulk d + uptoBulkAll r
def uptoBulkEntries {H : Type} : List (Lit × DataW H) → Nat
  | [] => 0
  | x :: r => uptoBulkEntry x + uptoBulkEntries r
def uptoBulkEntry {H : Type} : Lit × DataW H → Nat
  | (.string bytes, d) => bytes.length + uptoBulk d + 1
  | (_, d) => uptoBulk d + 1
 end
def uptoSmall : (H : Type) → List (DataW H) → Bool := fun _ ds => decide (uptoBulkAll ds ≤ 1048576)
def OpenSpec.upto (s : _root_.Go.ChangeSpec) : _root_.Go.OpenSpec := { _root_.Go.OpenSpec.ofChange s with cond := some uptoSmall }

/-- 'hourglasslaw11.ChainSees', WHERE WHAT IT READS IS OF BULK AT MOST 1048576: true; the input reads as it did. -/
def chainSeesUptoRow : OpenClaim := { program := "ytgkigcobaimccaa", sum := "72772db8dcae139731bfd5595a9b5471125d407a1968fe954991f1d97e708ec7", func := "hourglass/hourglasslaw11.ChainSees", spec := "chainSees", inPlace := ["slices.overlaps[hourglass/chain.Version]"], unfollowed := true, recurses := true, apart := false, narrowed := true }
def ChainSeesUptoSaid : Prop := chainSeesUptoRow.holds Try.pinned (OpenSpec.upto chainSeesSpec)

/-- 'hourglasslaw11.ChainOrder', WHERE WHAT IT READS IS OF BULK AT MOST 1048576: true; the input reads as it did. -/
def chainOrderUptoRow : OpenClaim := { program := "ytgkigcobaimccaa", sum := "72772db8dcae139731bfd5595a9b5471125d407a1968fe954991f1d97e708ec7", func := "hourglass/hourglasslaw11.ChainOrder", spec := "chainOrder", inPlace := ["slices.overlaps[hourglass/chain.Version]"], unfollowed := true, recurses := true, apart := false, narrowed := true }
def ChainOrderUptoSaid : Prop := chainOrderUptoRow.holds Try.pinned (OpenSpec.upto chainOrderSpec)

/-- 'hourglasslaw11.ChainTrims', WHERE WHAT IT READS IS OF BULK AT MOST 1048576: true; the input reads as it did. -/
def chainTrimsUptoRow : OpenClaim := { program := "ytgkigcobaimccaa", sum := "72772db8dcae139731bfd5595a9b5471125d407a1968fe954991f1d97e708ec7", func := "hourglass/hourglasslaw11.ChainTrims", spec := "chainTrims", inPlace := ["slices.overlaps[hourglass/chain.Version]"], unfollowed := true, recurses := true, apart := false, narrowed := true }
def ChainTrimsUptoSaid : Prop := chainTrimsUptoRow.holds Try.pinned (OpenSpec.upto chainTrimsSpec)

/-- 'hourglasslaw11.ChainKnown', WHERE WHAT IT READS IS OF BULK AT MOST 1048576: true; the input reads as it did. -/
def chainKnownUptoRow : OpenClaim := { program := "ytgkigcobaimccaa", sum := "72772db8dcae139731bfd5595a9b5471125d407a1968fe954991f1d97e708ec7", func := "hourglass/hourglasslaw11.ChainKnown", spec := "chainKnown", inPlace := ["slices.overlaps[hourglass/chain.Version]"], unfollowed := true, recurses := true, apart := false, narrowed := true }
def ChainKnownUptoSaid : Prop := chainKnownUptoRow.holds Try.pinned (OpenSpec.upto chainKnownSpec)

/-- 'hourglasslaw11.ChainPlays', WHERE WHAT IT READS IS OF BULK AT MOST 1048576: true; the input reads as it did. -/
def chainPlaysUptoRow : OpenClaim := { program := "ytgkigcobaimccaa", sum := "72772db8dcae139731bfd5595a9b5471125d407a1968fe954991f1d97e708ec7", func := "hourglass/hourglasslaw11.ChainPlays", spec := "chainPlays", inPlace := ["slices.overlaps[hourglass/chain.Version]"], unfollowed := true, recurses := true, apart := false, narrowed := true }
def ChainPlaysUptoSaid : Prop := chainPlaysUptoRow.holds Try.pinned (OpenSpec.upto chainPlaysSpec)

end Rows
end Go.Proofs.Ytgkigcobaimccaa
