/-
  No cell of these rows narrows 'for every input' (looked for: loops, veiled, ifaces, maps, wideKeys, modest, calm, conditions, laid).
  DERIVED. THE GIVEN ROWS OF THIS SEAT. 6 by the template 'for every input the law returns true; each argument reads behind the call as it read before'; 0 by the template 'total and deterministic' (their statements: YtfebebjopjopcaaTotals.lean).
  GIVEN WITH THE SEED: the statements are not yours to turn. If you find one false, say at which input.
  Laid BY PROGRAM, IN A SANDBOX (cutbox-rows.mjs): the forced cells as the released guide's own fill.sh prints them over the translation 3defbc165aecf7a2… (all of the seat's roots in one cut). By AI agents, Wed Nov 11 2026. No macro, syntax, notation, axiom, sorry.
-/
import Derived.Test.YtfebebjopjopcaaChecked
import GoSem.Claim
import GoSem.ClaimJoined
import GoSem.ClaimMapViews
import Derived.JoinedTies
import Derived.KernelRfl
namespace Go.Proofs.Ytfebebjopjopcaa
/- THE CELL 'sum', in the pinned program and in every row, IS THE sha256 OF THE DUMP (.gsa) THAT YtfebebjopjopcaaProg.lean LOADS. Nothing in Lean hashes anything: it is a label: what it is worth is what the hold of that sum in a sandbox is worth. -/
noncomputable def Try.pinned : Pinned := { name := "ytfebebjopjopcaa", sum := "3defbc165aecf7a2204a3dd378226c341fe67cc751b5ad9b934223cdd2eee79d", checked := Try.checked }
namespace Rows
def none {H : Type} : Left H := { results := [], args := [] }

/-- 'hourglasslaw7.DiscSteady': WHATEVER THE INPUT: true; the input reads as it did. -/
def discSteadySpec : ChangeSpec := { name := "discSteady", fn := fun _ => fun
  | [d1, d2] => { results := [.lit (.bool true)], args := [d1, d2] }
  | _ => none }
def discSteadyRow : OpenClaim := { program := "ytfebebjopjopcaa", sum := "3defbc165aecf7a2204a3dd378226c341fe67cc751b5ad9b934223cdd2eee79d", func := "hourglass/hourglasslaw7.DiscSteady", spec := "discSteady", apart := false }
def DiscSteadySaid : Prop := discSteadyRow.holds Try.pinned (OpenSpec.ofChange discSteadySpec)

/-- ITS FALSE NEIGHBOUR: 'it returns false'. Refute it at one input. -/
def discSteadyWrong : ChangeSpec := { name := "discSteady", fn := fun _ => fun
  | [d1, d2] => { results := [.lit (.bool false)], args := [d1, d2] }
  | _ => none }
def DiscSteadyWrongFalsely : Prop := discSteadyRow.holds Try.pinned (OpenSpec.ofChange discSteadyWrong)

/-- 'hourglasslaw7.DiscAgain': WHATEVER THE INPUT: true; the input reads as it did. -/
def discAgainSpec : ChangeSpec := { name := "discAgain", fn := fun _ => fun
  | [d1, d2] => { results := [.lit (.bool true)], args := [d1, d2] }
  | _ => none }
def discAgainRow : OpenClaim := { program := "ytfebebjopjopcaa", sum := "3defbc165aecf7a2204a3dd378226c341fe67cc751b5ad9b934223cdd2eee79d", func := "hourglass/hourglasslaw7.DiscAgain", spec := "discAgain", apart := false }
def DiscAgainSaid : Prop := discAgainRow.holds Try.pinned (OpenSpec.ofChange discAgainSpec)

/-- ITS FALSE NEIGHBOUR: 'it returns false'. Refute it at one input. -/
def discAgainWrong : ChangeSpec := { name := "discAgain", fn := fun _ => fun
  | [d1, d2] => { results := [.lit (.bool false)], args := [d1, d2] }
  | _ => none }
def DiscAgainWrongFalsely : Prop := discAgainRow.holds Try.pinned (OpenSpec.ofChange discAgainWrong)

/-- 'hourglasslaw7.DiscMiddle': WHATEVER THE INPUT: true; the input reads as it did. -/
def discMiddleSpec : ChangeSpec := { name := "discMiddle", fn := fun _ => fun
  | [d] => { results := [.lit (.bool true)], args := [d] }
  | _ => none }
def discMiddleRow : OpenClaim := { program := "ytfebebjopjopcaa", sum := "3defbc165aecf7a2204a3dd378226c341fe67cc751b5ad9b934223cdd2eee79d", func := "hourglass/hourglasslaw7.DiscMiddle", spec := "discMiddle", unfollowed := true, recurses := true, apart := false }
def DiscMiddleSaid : Prop := discMiddleRow.holds Try.pinned (OpenSpec.ofChange discMiddleSpec)

/-- ITS FALSE NEIGHBOUR: 'it returns false'. Refute it at one input. -/
def discMiddleWrong : ChangeSpec := { name := "discMiddle", fn := fun _ => fun
  | [d] => { results := [.lit (.bool false)], args := [d] }
  | _ => none }
def DiscMiddleWrongFalsely : Prop := discMiddleRow.holds Try.pinned (OpenSpec.ofChange discMiddleWrong)

/-- 'hourglasslaw7.DiscRises': WHATEVER THE INPUT: true; the input reads as it did. -/
def discRisesSpec : ChangeSpec := { name := "discRises", fn := fun _ => fun
  | [d1, d2] => { results := [.lit (.bool true)], args := [d1, d2] }
  | _ => none }
def discRisesRow : OpenClaim := { program := "ytfebebjopjopcaa", sum := "3defbc165aecf7a2204a3dd378226c341fe67cc751b5ad9b934223cdd2eee79d", func := "hourglass/hourglasslaw7.DiscRises", spec := "discRises", unfollowed := true, recurses := true, apart := false }
def DiscRisesSaid : Prop := discRisesRow.holds Try.pinned (OpenSpec.ofChange discRisesSpec)

/-- ITS FALSE NEIGHBOUR: 'it returns false'. Refute it at one input. -/
def discRisesWrong : ChangeSpec := { name := "discRises", fn := fun _ => fun
  | [d1, d2] => { results := [.lit (.bool false)], args := [d1, d2] }
  | _ => none }
def DiscRisesWrongFalsely : Prop := discRisesRow.holds Try.pinned (OpenSpec.ofChange discRisesWrong)

/-- 'hourglasslaw7.DiscKnown': WHATEVER THE INPUT: true; the input reads as it did. -/
def discKnownSpec : ChangeSpec := { name := "discKnown", fn := fun _ => fun
  | [] => { results := [.lit (.bool true)], args := [] }
  | _ => none }
def discKnownRow : OpenClaim := { program := "ytfebebjopjopcaa", sum := "3defbc165aecf7a2204a3dd378226c341fe67cc751b5ad9b934223cdd2eee79d", func := "hourglass/hourglasslaw7.DiscKnown", spec := "discKnown", unfollowed := true, recurses := true, apart := false }
def DiscKnownSaid : Prop := discKnownRow.holds Try.pinned (OpenSpec.ofChange discKnownSpec)

/-- ITS FALSE NEIGHBOUR: 'it returns false'. Refute it at one input. -/
def discKnownWrong : ChangeSpec := { name := "discKnown", fn := fun _ => fun
  | [] => { results := [.lit (.bool false)], args := [] }
  | _ => none }
def DiscKnownWrongFalsely : Prop := discKnownRow.holds Try.pinned (OpenSpec.ofChange discKnownWrong)

/-- 'hourglasslaw7.DiscPlays': WHATEVER THE INPUT: true; the input reads as it did. -/
def discPlaysSpec : ChangeSpec := { name := "discPlays", fn := fun _ => fun
  | [d1, d2, d3] => { results := [.lit (.bool true)], args := [d1, d2, d3] }
  | _ => none }
def discPlaysRow : OpenClaim := { program := "ytfebebjopjopcaa", sum := "3defbc165aecf7a2204a3dd378226c341fe67cc751b5ad9b934223cdd2eee79d", func := "hourglass/hourglasslaw7.DiscPlays", spec := "discPlays", unfollowed := true, recurses := true, apart := false }
def DiscPlaysSaid : Prop := discPlaysRow.holds Try.pinned (OpenSpec.ofChange discPlaysSpec)

/-- ITS FALSE NEIGHBOUR: 'it returns false'. Refute it at one input. -/
def discPlaysWrong : ChangeSpec := { name := "discPlays", fn := fun _ => fun
  | [d1, d2, d3] => { results := [.lit (.bool false)], args := [d1, d2, d3] }
  | _ => none }
def DiscPlaysWrongFalsely : Prop := discPlaysRow.holds Try.pinned (OpenSpec.ofChange discPlaysWrong)

/- THE SECOND FORM. 'bulk': how many values and letters a reading holds, each counted each time it is reached (what is shared counts as often as it is met; a slice's spare places count too). A statement '..UptoSaid' is the law's where the arguments, and the package variables that the reading takes, are together of bulk at most 1048576: NARROWER than '..Said'. Prove '..Said' where nothing that the law and all that it calls make is longer than what came in: it says more and counts as full. Else prove '..UptoSaid'. A law counts once. -/
mutual
def uptoBulk {H : Type} : DataW H → Nat
  | .lit (.string bytes) => bytes.length + 1
  | .lit _ => 1
  | .nil => 1
  | .ptr d => uptoBulk d + 1
  | .slice elems spare => uptoBulkAll elems + uptoBulkAll spare + 1
  | .agg parts => uptoBulkAll parts + 1
  | .iface _ d => uptoBulk d + 1
  | .map entries => uptoBulkEntries entries + 1
  | .held _ => 1
def uptoBulkAll {H : Type} : List (DataW H) → Nat
  | [] => 0
  | d :: r => uptoBulk d + uptoBulkAll r
def uptoBulkEntries {H : Type} : List (Lit × DataW H) → Nat
  | [] => 0
  | x :: r => uptoBulkEntry x + uptoBulkEntries r
def uptoBulkEntry {H : Type} : Lit × DataW H → Nat
  | (.string bytes, d) => bytes.length + uptoBulk d + 1
  | (_, d) => uptoBulk d + 1
 end
def uptoSmall : (H : Type) → List (DataW H) → Bool := fun _ ds => decide (uptoBulkAll ds ≤ 1048576)
def OpenSpec.upto (s : _root_.Go.ChangeSpec) : _root_.Go.OpenSpec := { _root_.Go.OpenSpec.ofChange s with cond := some uptoSmall }

/-- 'hourglasslaw7.DiscSteady', WHERE WHAT IT READS IS OF BULK AT MOST 1048576: true; the input reads as it did. -/
def discSteadyUptoRow : OpenClaim := { program := "ytfebebjopjopcaa", sum := "3defbc165aecf7a2204a3dd378226c341fe67cc751b5ad9b934223cdd2eee79d", func := "hourglass/hourglasslaw7.DiscSteady", spec := "discSteady", apart := false, narrowed := true }
def DiscSteadyUptoSaid : Prop := discSteadyUptoRow.holds Try.pinned (OpenSpec.upto discSteadySpec)

/-- 'hourglasslaw7.DiscAgain', WHERE WHAT IT READS IS OF BULK AT MOST 1048576: true; the input reads as it did. -/
def discAgainUptoRow : OpenClaim := { program := "ytfebebjopjopcaa", sum := "3defbc165aecf7a2204a3dd378226c341fe67cc751b5ad9b934223cdd2eee79d", func := "hourglass/hourglasslaw7.DiscAgain", spec := "discAgain", apart := false, narrowed := true }
def DiscAgainUptoSaid : Prop := discAgainUptoRow.holds Try.pinned (OpenSpec.upto discAgainSpec)

/-- 'hourglasslaw7.DiscMiddle', WHERE WHAT IT READS IS OF BULK AT MOST 1048576: true; the input reads as it did. -/
def discMiddleUptoRow : OpenClaim := { program := "ytfebebjopjopcaa", sum := "3defbc165aecf7a2204a3dd378226c341fe67cc751b5ad9b934223cdd2eee79d", func := "hourglass/hourglasslaw7.DiscMiddle", spec := "discMiddle", unfollowed := true, recurses := true, apart := false, narrowed := true }
def DiscMiddleUptoSaid : Prop := discMiddleUptoRow.holds Try.pinned (OpenSpec.upto discMiddleSpec)

/-- 'hourglasslaw7.DiscRises', WHERE WHAT IT READS IS OF BULK AT MOST 1048576: true; the input reads as it did. -/
def discRisesUptoRow : OpenClaim := { program := "ytfebebjopjopcaa", sum := "3defbc165aecf7a2204a3dd378226c341fe67cc751b5ad9b934223cdd2eee79d", func := "hourglass/hourglasslaw7.DiscRises", spec := "discRises", unfollowed := true, recurses := true, apart := false, narrowed := true }
def DiscRisesUptoSaid : Prop := discRisesUptoRow.holds Try.pinned (OpenSpec.upto discRisesSpec)

/-- 'hourglasslaw7.DiscKnown', WHERE WHAT IT READS IS OF BULK AT MOST 1048576: true; the input reads as it did. -/
def discKnownUptoRow : OpenClaim := { program := "ytfebebjopjopcaa", sum := "3defbc165aecf7a2204a3dd378226c341fe67cc751b5ad9b934223cdd2eee79d", func := "hourglass/hourglasslaw7.DiscKnown", spec := "discKnown", unfollowed := true, recurses := true, apart := false, narrowed := true }
def DiscKnownUptoSaid : Prop := discKnownUptoRow.holds Try.pinned (OpenSpec.upto discKnownSpec)

/-- 'hourglasslaw7.DiscPlays', WHERE WHAT IT READS IS OF BULK AT MOST 1048576: true; the input reads as it did. -/
def discPlaysUptoRow : OpenClaim := { program := "ytfebebjopjopcaa", sum := "3defbc165aecf7a2204a3dd378226c341fe67cc751b5ad9b934223cdd2eee79d", func := "hourglass/hourglasslaw7.DiscPlays", spec := "discPlays", unfollowed := true, recurses := true, apart := false, narrowed := true }
def DiscPlaysUptoSaid : Prop := discPlaysUptoRow.holds Try.pinned (OpenSpec.upto discPlaysSpec)

end Rows
end Go.Proofs.Ytfebebjopjopcaa
