-- Laid by a program of this session.
import Derived.Test.YtndpeoladndepaaDoorProg
import Derived.Below
import Derived.Deep.Draws
import Derived.Deep.AppendLies
import Derived.Maps.AppendAt
import Derived.OwnWalk
import Derived.Laws.BytesArg
import Derived.Laws.MakeOwn
import Derived.Laws.OwnMore
import Derived.Deep.OwnRows
import Derived.Tactics
import Derived.Lib.ConvBytes
import Derived.Laws.Slices
import Derived.WalkKit
import Derived.KernelRfl
import Derived.RowKit3
import Derived.Deep.LoopGhost
import Derived.Deep.QuietTactic
import Derived.BigQuiet
import Derived.WideLaws
import Derived.Deep.DeepCutAuto
import Derived.Deep.CutBlock
import Derived.Deep.RegionHeld3
import Derived.Laws.Rows
import Derived.Lib.AppendStr
import Derived.ArgAppend
import Derived.Laws.IdiomCopy
import Derived.OrdersHeld
import Derived.Laws.BitsLemmas
import Derived.RowKit
import Derived.Test.YtndpeoladndepaaDoorWWords
import Derived.Test.YtndpeoladndepaaDoorWLast
import Derived.Test.YtndpeoladndepaaDoorWTab
import Derived.Test.YtndpeoladndepaaDoorWFour
import Derived.Test.YtndpeoladndepaaDoorWQPut
import Derived.Test.YtndpeoladndepaaDoorWApart
import Derived.Test.YtndpeoladndepaaDoorWArr
import Derived.Test.YtndpeoladndepaaDoorWZeros
import Derived.Test.YtndpeoladndepaaDoorWFoot
import Derived.Test.YtndpeoladndepaaDoorWKept
import Derived.Test.YtndpeoladndepaaDoorWShare
import Derived.Test.YtndpeoladndepaaDoorWN
import Derived.Test.YtndpeoladndepaaDoorWFootNe
import Derived.Test.YtndpeoladndepaaDoorWAt
import Derived.Test.YtndpeoladndepaaDoorWEqStruct
import Derived.Test.YtndpeoladndepaaDoorWRepsOne
import Derived.Test.YtndpeoladndepaaDoorWInv
import Derived.Test.YtndpeoladndepaaDoorWInvWords
import Derived.Test.YtndpeoladndepaaDoorWGuard
import Derived.Test.YtndpeoladndepaaDoorWNEv
import Derived.Test.YtndpeoladndepaaDoorWMore
namespace Go.Proofs.YtndpeoladndepaaDoor.PRelationCondenses
open Go.RowKit Go.Proofs.YtndpeoladndepaaDoorW.PrintWords Go.Proofs.YtndpeoladndepaaDoorW.PrintLast Go.Proofs.YtndpeoladndepaaDoorW.PrintMore
attribute [local go_sem] max2_int min2_int max_two min_two max_three min_three max_four min_four   -- for this text's walks alone
set_option linter.unusedVariables false
set_option linter.unusedSimpArgs false



def errW : Option Int → Value
  | none => .nilIface
  | some c => .iface 0 (.int .i64 c)
theorem errW_none : errW none = .nilIface := rfl
theorem errW_some (c : Int) : errW (some c) = .iface 0 (.int .i64 c) := rfl

theorem info3 : (Tryd.prog.info? 3).map (fun i => (i.zero, i.size, i.bytes)) = some (some (.int .i64 0), 1, 8) := by kernel_rfl
theorem info26 : (Tryd.prog.info? 26).map (fun i => (i.zero, i.size, i.bytes)) = some (some (.int .u64 0), 1, 8) := by kernel_rfl
-- the values' own types

end Go.Proofs.YtndpeoladndepaaDoor.PRelationCondenses
