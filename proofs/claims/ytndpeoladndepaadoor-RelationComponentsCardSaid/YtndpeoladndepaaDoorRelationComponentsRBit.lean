/- What the reference's set of one point is. Condition: an index below 64. -/
import Derived.Test.YtndpeoladndepaaDoorRelOps
import Derived.Test.YtndpeoladndepaaDoorPRelationComponentsx7
namespace Go.Proofs.YtndpeoladndepaaDoor.RelationComponentsRBit
set_option linter.all false
open Go Go.RowKit Go.Proofs.YtndpeoladndepaaDoor.PRelationComponents Go.Proofs.YtndpeoladndepaaDoorW.PrintWords Go.Proofs.YtndpeoladndepaaDoorW.PrintLast Go.Proofs.YtndpeoladndepaaDoor.Bit64 Go.Proofs.YtndpeoladndepaaDoor.Base Go.Proofs.YtndpeoladndepaaDoor.Warsh Go.Proofs.YtndpeoladndepaaDoor.Ctz Go.Proofs.YtndpeoladndepaaDoor.RelOps
theorem bit_eq {n : Nat} (h : n < 64) : semigroupref02_Bit.f (n : Int) = some (shl .u64 1 (n : Int)) := by
  unfold semigroupref02_Bit.f
  rw [wrap_idx (by omega) (by omega), if_pos (by omega)]
end Go.Proofs.YtndpeoladndepaaDoor.RelationComponentsRBit
