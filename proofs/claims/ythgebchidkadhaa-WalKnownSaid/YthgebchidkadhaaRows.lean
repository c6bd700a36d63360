/-
  No cell of these rows narrows 'for every input' (looked for: loops, veiled, ifaces, maps, wideKeys, modest, calm, conditions, laid).
  DERIVED. THE GIVEN ROWS OF THIS SEAT. 6 by the template 'for every input the law returns true; each argument reads behind the call as it read before'; 0 by the template 'total and deterministic' (their statements: YthgebchidkadhaaTotals.lean).
  GIVEN WITH THE SEED: the statements are not yours to turn. If you find one false, say at which input.
  Laid BY PROGRAM, IN A SANDBOX (cutbox-rows.mjs): the forced cells as the released guide's own fill.sh prints them over the translation 838f7bbcd54e4041… (all of the seat's roots in one cut). By AI agents, Wed Nov 11 2026. No macro, syntax, notation, axiom, sorry.
-/
import Derived.Test.YthgebchidkadhaaChecked
import GoSem.Claim
import GoSem.ClaimJoined
import GoSem.ClaimMapViews
import Derived.JoinedTies
import Derived.KernelRfl
namespace Go.Proofs.Ythgebchidkadhaa
/- THE CELL 'sum', in the pinned program and in every row, IS THE sha256 OF THE DUMP (.gsa) THAT YthgebchidkadhaaProg.lean LOADS. Nothing in Lean hashes anything: it is a label: what it is worth is what the hold of that sum in a sandbox is worth. -/
noncomputable def Try.pinned : Pinned := { name := "ythgebchidkadhaa", sum := "838f7bbcd54e4041df0740bca987737f39e5a02487df030ebf3d3a9d37e8a927", checked := Try.checked }
namespace Rows
def none {H : Type} : Left H := { results := [], args := [] }

/-- 'hourglasslaw9.WalCrash': WHATEVER THE INPUT: true; the input reads as it did. -/
def walCrashSpec : ChangeSpec := { name := "walCrash", fn := fun _ => fun
  | [d1, d2, d3, d4] => { results := [.lit (.bool true)], args := [d1, d2, d3, d4] }
  | _ => none }
def walCrashRow : OpenClaim := { program := "ythgebchidkadhaa", sum := "838f7bbcd54e4041df0740bca987737f39e5a02487df030ebf3d3a9d37e8a927", func := "hourglass/hourglasslaw9.WalCrash", spec := "walCrash", apart := false }
def WalCrashSaid : Prop := walCrashRow.holds Try.pinned (OpenSpec.ofChange walCrashSpec)

/-- ITS FALSE NEIGHBOUR: 'it returns false'. Refute it at one input. -/
def walCrashWrong : ChangeSpec := { name := "walCrash", fn := fun _ => fun
  | [d1, d2, d3, d4] => { results := [.lit (.bool false)], args := [d1, d2, d3, d4] }
  | _ => none }
def WalCrashWrongFalsely : Prop := walCrashRow.holds Try.pinned (OpenSpec.ofChange walCrashWrong)

/-- 'hourglasslaw9.WalTwice': WHATEVER THE INPUT: true; the input reads as it did. -/
def walTwiceSpec : ChangeSpec := { name := "walTwice", fn := fun _ => fun
  | [d1, d2, d3, d4, d5] => { results := [.lit (.bool true)], args := [d1, d2, d3, d4, d5] }
  | _ => none }
def walTwiceRow : OpenClaim := { program := "ythgebchidkadhaa", sum := "838f7bbcd54e4041df0740bca987737f39e5a02487df030ebf3d3a9d37e8a927", func := "hourglass/hourglasslaw9.WalTwice", spec := "walTwice", apart := false }
def WalTwiceSaid : Prop := walTwiceRow.holds Try.pinned (OpenSpec.ofChange walTwiceSpec)

/-- ITS FALSE NEIGHBOUR: 'it returns false'. Refute it at one input. -/
def walTwiceWrong : ChangeSpec := { name := "walTwice", fn := fun _ => fun
  | [d1, d2, d3, d4, d5] => { results := [.lit (.bool false)], args := [d1, d2, d3, d4, d5] }
  | _ => none }
def WalTwiceWrongFalsely : Prop := walTwiceRow.holds Try.pinned (OpenSpec.ofChange walTwiceWrong)

/-- 'hourglasslaw9.WalOnce': WHATEVER THE INPUT: true; the input reads as it did. -/
def walOnceSpec : ChangeSpec := { name := "walOnce", fn := fun _ => fun
  | [d1, d2] => { results := [.lit (.bool true)], args := [d1, d2] }
  | _ => none }
def walOnceRow : OpenClaim := { program := "ythgebchidkadhaa", sum := "838f7bbcd54e4041df0740bca987737f39e5a02487df030ebf3d3a9d37e8a927", func := "hourglass/hourglasslaw9.WalOnce", spec := "walOnce", apart := false }
def WalOnceSaid : Prop := walOnceRow.holds Try.pinned (OpenSpec.ofChange walOnceSpec)

/-- ITS FALSE NEIGHBOUR: 'it returns false'. Refute it at one input. -/
def walOnceWrong : ChangeSpec := { name := "walOnce", fn := fun _ => fun
  | [d1, d2] => { results := [.lit (.bool false)], args := [d1, d2] }
  | _ => none }
def WalOnceWrongFalsely : Prop := walOnceRow.holds Try.pinned (OpenSpec.ofChange walOnceWrong)

/-- 'hourglasslaw9.WalKnown': WHATEVER THE INPUT: true; the input reads as it did. -/
def walKnownSpec : ChangeSpec := { name := "walKnown", fn := fun _ => fun
  | [] => { results := [.lit (.bool true)], args := [] }
  | _ => none }
def walKnownRow : OpenClaim := { program := "ythgebchidkadhaa", sum := "838f7bbcd54e4041df0740bca987737f39e5a02487df030ebf3d3a9d37e8a927", func := "hourglass/hourglasslaw9.WalKnown", spec := "walKnown", apart := false }
def WalKnownSaid : Prop := walKnownRow.holds Try.pinned (OpenSpec.ofChange walKnownSpec)

/-- ITS FALSE NEIGHBOUR: 'it returns false'. Refute it at one input. -/
def walKnownWrong : ChangeSpec := { name := "walKnown", fn := fun _ => fun
  | [] => { results := [.lit (.bool false)], args := [] }
  | _ => none }
def WalKnownWrongFalsely : Prop := walKnownRow.holds Try.pinned (OpenSpec.ofChange walKnownWrong)

/-- 'hourglasslaw9.WalPlays': WHATEVER THE INPUT: true; the input reads as it did. -/
def walPlaysSpec : ChangeSpec := { name := "walPlays", fn := fun _ => fun
  | [d1, d2] => { results := [.lit (.bool true)], args := [d1, d2] }
  | _ => none }
def walPlaysRow : OpenClaim := { program := "ythgebchidkadhaa", sum := "838f7bbcd54e4041df0740bca987737f39e5a02487df030ebf3d3a9d37e8a927", func := "hourglass/hourglasslaw9.WalPlays", spec := "walPlays", apart := false }
def WalPlaysSaid : Prop := walPlaysRow.holds Try.pinned (OpenSpec.ofChange walPlaysSpec)

/-- ITS FALSE NEIGHBOUR: 'it returns false'. Refute it at one input. -/
def walPlaysWrong : ChangeSpec := { name := "walPlays", fn := fun _ => fun
  | [d1, d2] => { results := [.lit (.bool false)], args := [d1, d2] }
  | _ => none }
def WalPlaysWrongFalsely : Prop := walPlaysRow.holds Try.pinned (OpenSpec.ofChange walPlaysWrong)

/-- 'hourglasslaw9.WalClears': WHATEVER THE INPUT: true; the input reads as it did. -/
def walClearsSpec : ChangeSpec := { name := "walClears", fn := fun _ => fun
  | [d1, d2, d3, d4] => { results := [.lit (.bool true)], args := [d1, d2, d3, d4] }
  | _ => none }
def walClearsRow : OpenClaim := { program := "ythgebchidkadhaa", sum := "838f7bbcd54e4041df0740bca987737f39e5a02487df030ebf3d3a9d37e8a927", func := "hourglass/hourglasslaw9.WalClears", spec := "walClears", apart := false }
def WalClearsSaid : Prop := walClearsRow.holds Try.pinned (OpenSpec.ofChange walClearsSpec)

/-- ITS FALSE NEIGHBOUR: 'it returns false'. Refute it at one input. -/
def walClearsWrong : ChangeSpec := { name := "walClears", fn := fun _ => fun
  | [d1, d2, d3, d4] => { results := [.lit (.bool false)], args := [d1, d2, d3, d4] }
  | _ => none }
def WalClearsWrongFalsely : Prop := walClearsRow.holds Try.pinned (OpenSpec.ofChange walClearsWrong)

/- THE SECOND FORM. 'bulk': how many values and letters a reading holds, each counted each time it is reached (what is shared counts as often as it is met; a slice's spare places count too). A statement '..UptoSaid' is the law's where the arguments, and the package variables that the reading takes, are together of bulk at most 1048576: NARROWER than '..Said'. Prove '..Said' where nothing that the law and all that it calls make is longer than what came in: it says more and counts as full. Else prove '..UptoSaid'. A law counts once. -/
mutual
def uptoBulk {H : Type} : DataW H → Nat
  | .lit (.string bytes) => bytes.length + 1
  | .lit _ => 1
  | .nil => 1
  | .ptr d => uptoBulk d + 1
  | .slice elems spare => uptoBulkAll elems + uptoBulkAll spare + 1
  | .agg parts => uptoBulkAll parts + 1
  | .iface _ d => uptoBulk d + 1
  | .map entries => uptoBulkEntries entries + 1
  | .held _ => 1
def uptoBulkAll {H : Type} : List (DataW H) → Nat
  | [] => 0
  | d :: r => uptoBulk d + uptoBulkAll r
def uptoBulkEntries {H : Type} : List (Lit × DataW H) → Nat
  | [] => 0
  | x :: r => uptoBulkEntry x + uptoBulkEntries r
def uptoBulkEntry {H : Type} : Lit × DataW H → Nat
  | (.string bytes, d) => bytes.length + uptoBulk d + 1
  | (_, d) => uptoBulk d + 1
 end
def uptoSmall : (H : Type) → List (DataW H) → Bool := fun _ ds => decide (uptoBulkAll ds ≤ 1048576)
def OpenSpec.upto (s : _root_.Go.ChangeSpec) : _root_.Go.OpenSpec := { _root_.Go.OpenSpec.ofChange s with cond := some uptoSmall }

/-- 'hourglasslaw9.WalCrash', WHERE WHAT IT READS IS OF BULK AT MOST 1048576: true; the input reads as it did. -/
def walCrashUptoRow : OpenClaim := { program := "ythgebchidkadhaa", sum := "838f7bbcd54e4041df0740bca987737f39e5a02487df030ebf3d3a9d37e8a927", func := "hourglass/hourglasslaw9.WalCrash", spec := "walCrash", apart := false, narrowed := true }
def WalCrashUptoSaid : Prop := walCrashUptoRow.holds Try.pinned (OpenSpec.upto walCrashSpec)

/-- 'hourglasslaw9.WalTwice', WHERE WHAT IT READS IS OF BULK AT MOST 1048576: true; the input reads as it did. -/
def walTwiceUptoRow : OpenClaim := { program := "ythgebchidkadhaa", sum := "838f7bbcd54e4041df0740bca987737f39e5a02487df030ebf3d3a9d37e8a927", func := "hourglass/hourglasslaw9.WalTwice", spec := "walTwice", apart := false, narrowed := true }
def WalTwiceUptoSaid : Prop := walTwiceUptoRow.holds Try.pinned (OpenSpec.upto walTwiceSpec)

/-- 'hourglasslaw9.WalOnce', WHERE WHAT IT READS IS OF BULK AT MOST 1048576: true; the input reads as it did. -/
def walOnceUptoRow : OpenClaim := { program := "ythgebchidkadhaa", sum := "838f7bbcd54e4041df0740bca987737f39e5a02487df030ebf3d3a9d37e8a927", func := "hourglass/hourglasslaw9.WalOnce", spec := "walOnce", apart := false, narrowed := true }
def WalOnceUptoSaid : Prop := walOnceUptoRow.holds Try.pinned (OpenSpec.upto walOnceSpec)

/-- 'hourglasslaw9.WalKnown', WHERE WHAT IT READS IS OF BULK AT MOST 1048576: true; the input reads as it did. -/
def walKnownUptoRow : OpenClaim := { program := "ythgebchidkadhaa", sum := "838f7bbcd54e4041df0740bca987737f39e5a02487df030ebf3d3a9d37e8a927", func := "hourglass/hourglasslaw9.WalKnown", spec := "walKnown", apart := false, narrowed := true }
def WalKnownUptoSaid : Prop := walKnownUptoRow.holds Try.pinned (OpenSpec.upto walKnownSpec)

/-- 'hourglasslaw9.WalPlays', WHERE WHAT IT READS IS OF BULK AT MOST 1048576: true; the input reads as it did. -/
def walPlaysUptoRow : OpenClaim := { program := "ythgebchidkadhaa", sum := "838f7bbcd54e4041df0740bca987737f39e5a02487df030ebf3d3a9d37e8a927", func := "hourglass/hourglasslaw9.WalPlays", spec := "walPlays", apart := false, narrowed := true }
def WalPlaysUptoSaid : Prop := walPlaysUptoRow.holds Try.pinned (OpenSpec.upto walPlaysSpec)

/-- 'hourglasslaw9.WalClears', WHERE WHAT IT READS IS OF BULK AT MOST 1048576: true; the input reads as it did. -/
def walClearsUptoRow : OpenClaim := { program := "ythgebchidkadhaa", sum := "838f7bbcd54e4041df0740bca987737f39e5a02487df030ebf3d3a9d37e8a927", func := "hourglass/hourglasslaw9.WalClears", spec := "walClears", apart := false, narrowed := true }
def WalClearsUptoSaid : Prop := walClearsUptoRow.holds Try.pinned (OpenSpec.upto walClearsSpec)

end Rows
end Go.Proofs.Ythgebchidkadhaa
