/- What the Go functions compute: each as a Lean function, with the proof that its call answers so; written by a program of this session over the kit's print. Conditions: each theorem's own. -/
import Derived.Test.YtfebebjopjopcaaProg
import Derived.Below
import Derived.Deep.Draws
import Derived.Deep.AppendLies
import Derived.Maps.AppendAt
import Derived.OwnWalk
import Derived.Laws.BytesArg
import Derived.Laws.MakeOwn
import Derived.Laws.OwnMore
import Derived.Deep.OwnRows
import Derived.Tactics
import Derived.Lib.ConvBytes
import Derived.Laws.Slices
import Derived.WalkKit
import Derived.KernelRfl
import Derived.RowKit3
import Derived.Deep.LoopGhost
import Derived.Deep.QuietTactic
import Derived.BigQuiet
import Derived.WideLaws
import Derived.Deep.DeepCutAuto
import Derived.Deep.CutBlock
import Derived.Deep.RegionHeld3
import Derived.Laws.Rows
import Derived.Lib.AppendStr
import Derived.ArgAppend
import Derived.Laws.IdiomCopy
import Derived.OrdersHeld
import Derived.Laws.BitsLemmas
import Derived.RowKit
import Derived.Test.YtfebebjopjopcaaGcl
import Derived.Test.YtfebebjopjopcaaGse
import Derived.Test.YtfebebjopjopcaaGsa
import Derived.Test.YtfebebjopjopcaaWWords
import Derived.Test.YtfebebjopjopcaaWLast
import Derived.Test.YtfebebjopjopcaaWTab
import Derived.Test.YtfebebjopjopcaaWFour
import Derived.Test.YtfebebjopjopcaaWQPut
import Derived.Test.YtfebebjopjopcaaWApart
import Derived.Test.YtfebebjopjopcaaWArr
import Derived.Test.YtfebebjopjopcaaWZeros
import Derived.Test.YtfebebjopjopcaaWFoot
import Derived.Test.YtfebebjopjopcaaWKept
import Derived.Test.YtfebebjopjopcaaWShare
import Derived.Test.YtfebebjopjopcaaWN
import Derived.Test.YtfebebjopjopcaaWFootNe
import Derived.Test.YtfebebjopjopcaaWAt
import Derived.Test.YtfebebjopjopcaaWEqStruct
import Derived.Test.YtfebebjopjopcaaWRepsOne
import Derived.Test.YtfebebjopjopcaaWInv
import Derived.Test.YtfebebjopjopcaaWInvWords
import Derived.Test.YtfebebjopjopcaaWGuard
import Derived.Test.YtfebebjopjopcaaWNEv
import Derived.Test.YtfebebjopjopcaaWMore
namespace Go.Proofs.Ytfebebjopjopcaa.QMid
open Go.RowKit Go.Proofs.YtfebebjopjopcaaW.PrintWords Go.Proofs.YtfebebjopjopcaaW.PrintLast Go.Proofs.YtfebebjopjopcaaW.PrintMore
attribute [local go_sem] max2_int min2_int max_two min_two max_three min_three max_four min_four   -- for this text's walks alone
set_option linter.unusedVariables false
set_option linter.unusedSimpArgs false



def errW : Option Int → Value
  | none => .nilIface
  | some c => .iface 0 (.int .i64 c)
theorem errW_none : errW none = .nilIface := rfl
theorem errW_some (c : Int) : errW (some c) = .iface 0 (.int .i64 c) := rfl

-- the values' own types

end Go.Proofs.Ytfebebjopjopcaa.QMid
