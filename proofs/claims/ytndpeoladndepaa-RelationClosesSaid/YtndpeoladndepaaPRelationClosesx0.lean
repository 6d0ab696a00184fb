-- Laid by a program of this session.
import Derived.Test.YtndpeoladndepaaProg
import Derived.Below
import Derived.Deep.Draws
import Derived.Deep.AppendLies
import Derived.Maps.AppendAt
import Derived.OwnWalk
import Derived.Laws.BytesArg
import Derived.Laws.MakeOwn
import Derived.Laws.OwnMore
import Derived.Deep.OwnRows
import Derived.Tactics
import Derived.Lib.ConvBytes
import Derived.Laws.Slices
import Derived.WalkKit
import Derived.KernelRfl
import Derived.RowKit3
import Derived.Deep.LoopGhost
import Derived.Deep.QuietTactic
import Derived.BigQuiet
import Derived.WideLaws
import Derived.Deep.DeepCutAuto
import Derived.Deep.CutBlock
import Derived.Deep.RegionHeld3
import Derived.Laws.Rows
import Derived.Lib.AppendStr
import Derived.ArgAppend
import Derived.Laws.IdiomCopy
import Derived.OrdersHeld
import Derived.Laws.BitsLemmas
import Derived.RowKit
import Derived.Test.YtndpeoladndepaaWWords
import Derived.Test.YtndpeoladndepaaWLast
import Derived.Test.YtndpeoladndepaaWTab
import Derived.Test.YtndpeoladndepaaWFour
import Derived.Test.YtndpeoladndepaaWQPut
import Derived.Test.YtndpeoladndepaaWApart
import Derived.Test.YtndpeoladndepaaWArr
import Derived.Test.YtndpeoladndepaaWZeros
import Derived.Test.YtndpeoladndepaaWFoot
import Derived.Test.YtndpeoladndepaaWKept
import Derived.Test.YtndpeoladndepaaWShare
import Derived.Test.YtndpeoladndepaaWN
import Derived.Test.YtndpeoladndepaaWFootNe
import Derived.Test.YtndpeoladndepaaWAt
import Derived.Test.YtndpeoladndepaaWEqStruct
import Derived.Test.YtndpeoladndepaaWRepsOne
import Derived.Test.YtndpeoladndepaaWInv
import Derived.Test.YtndpeoladndepaaWInvWords
import Derived.Test.YtndpeoladndepaaWGuard
import Derived.Test.YtndpeoladndepaaWNEv
import Derived.Test.YtndpeoladndepaaWMore
namespace Go.Proofs.Ytndpeoladndepaa.PRelationCloses
open Go.RowKit Go.Proofs.YtndpeoladndepaaW.PrintWords Go.Proofs.YtndpeoladndepaaW.PrintLast Go.Proofs.YtndpeoladndepaaW.PrintMore
attribute [local go_sem] max2_int min2_int max_two min_two max_three min_three max_four min_four   -- for this text's walks alone
set_option linter.unusedVariables false
set_option linter.unusedSimpArgs false



def errW : Option Int → Value
  | none => .nilIface
  | some c => .iface 0 (.int .i64 c)
theorem errW_none : errW none = .nilIface := rfl
theorem errW_some (c : Int) : errW (some c) = .iface 0 (.int .i64 c) := rfl

theorem info29 : (Try.prog.info? 29).map (fun i => (i.zero, i.size, i.bytes)) = some (some (.int .u64 0), 1, 8) := by kernel_rfl
-- the values' own types

end Go.Proofs.Ytndpeoladndepaa.PRelationCloses
