/- What the Go functions compute: each as a Lean function, with the proof that its call answers so; written by a program of this session over the kit's print. Conditions: each theorem's own. -/
import Derived.Test.YtbgdpkpljkcnfaaDoorProg
import Derived.Below
import Derived.Deep.Draws
import Derived.Deep.AppendLies
import Derived.Maps.AppendAt
import Derived.OwnWalk
import Derived.Laws.BytesArg
import Derived.Laws.MakeOwn
import Derived.Laws.OwnMore
import Derived.Deep.OwnRows
import Derived.Tactics
import Derived.Lib.ConvBytes
import Derived.Laws.Slices
import Derived.WalkKit
import Derived.KernelRfl
import Derived.RowKit3
import Derived.Deep.LoopGhost
import Derived.Deep.QuietTactic
import Derived.BigQuiet
import Derived.WideLaws
import Derived.Deep.DeepCutAuto
import Derived.Deep.CutBlock
import Derived.Deep.RegionHeld3
import Derived.Laws.Rows
import Derived.Lib.AppendStr
import Derived.ArgAppend
import Derived.Laws.IdiomCopy
import Derived.OrdersHeld
import Derived.Laws.BitsLemmas
import Derived.RowKit
import Derived.Test.YtbgdpkpljkcnfaaDoorShelf
import Derived.Test.YtbgdpkpljkcnfaaDoorQu
import Derived.Test.YtbgdpkpljkcnfaaDoorWWords
import Derived.Test.YtbgdpkpljkcnfaaDoorWLast
import Derived.Test.YtbgdpkpljkcnfaaDoorWTab
import Derived.Test.YtbgdpkpljkcnfaaDoorWFour
import Derived.Test.YtbgdpkpljkcnfaaDoorWQPut
import Derived.Test.YtbgdpkpljkcnfaaDoorWApart
import Derived.Test.YtbgdpkpljkcnfaaDoorWArr
import Derived.Test.YtbgdpkpljkcnfaaDoorWZeros
import Derived.Test.YtbgdpkpljkcnfaaDoorWFoot
import Derived.Test.YtbgdpkpljkcnfaaDoorWKept
import Derived.Test.YtbgdpkpljkcnfaaDoorWShare
import Derived.Test.YtbgdpkpljkcnfaaDoorWN
import Derived.Test.YtbgdpkpljkcnfaaDoorWFootNe
import Derived.Test.YtbgdpkpljkcnfaaDoorWAt
import Derived.Test.YtbgdpkpljkcnfaaDoorWEqStruct
import Derived.Test.YtbgdpkpljkcnfaaDoorWRepsOne
import Derived.Test.YtbgdpkpljkcnfaaDoorWInv
import Derived.Test.YtbgdpkpljkcnfaaDoorWInvWords
import Derived.Test.YtbgdpkpljkcnfaaDoorWGuard
import Derived.Test.YtbgdpkpljkcnfaaDoorWNEv
import Derived.Test.YtbgdpkpljkcnfaaDoorWMore
namespace Go.Proofs.YtbgdpkpljkcnfaaDoor.QCivil
open Go.RowKit Go.Proofs.YtbgdpkpljkcnfaaDoorW.PrintWords Go.Proofs.YtbgdpkpljkcnfaaDoorW.PrintLast Go.Proofs.YtbgdpkpljkcnfaaDoorW.PrintMore
attribute [local go_sem] max2_int min2_int max_two min_two max_three min_three max_four min_four   -- for this text's walks alone
set_option linter.unusedVariables false
set_option linter.unusedSimpArgs false



def errW : Option Int → Value
  | none => .nilIface
  | some c => .iface 0 (.int .i64 c)
theorem errW_none : errW none = .nilIface := rfl
theorem errW_some (c : Int) : errW (some c) = .iface 0 (.int .i64 c) := rfl

theorem info5 : (Tryd.prog.info? 5).map (fun i => (i.zero, i.size, i.bytes)) = some (some (.int .u8 0), 1, 1) := by kernel_rfl
-- the values' own types

end Go.Proofs.YtbgdpkpljkcnfaaDoor.QCivil
