/- What the reference's set of one point is. Condition: an index below 64. -/
import Derived.Test.YtndpeoladndepaaRelOps
import Derived.Test.YtndpeoladndepaaPRelationClosesx3
namespace Go.Proofs.Ytndpeoladndepaa.RelationClosesRBit
set_option linter.all false
open Go Go.RowKit Go.Proofs.Ytndpeoladndepaa.PRelationCloses Go.Proofs.YtndpeoladndepaaW.PrintWords Go.Proofs.YtndpeoladndepaaW.PrintLast Go.Proofs.Ytndpeoladndepaa.Bit64 Go.Proofs.Ytndpeoladndepaa.Base Go.Proofs.Ytndpeoladndepaa.Warsh Go.Proofs.Ytndpeoladndepaa.Ctz Go.Proofs.Ytndpeoladndepaa.RelOps
theorem bit_eq {n : Nat} (h : n < 64) : semigroupref02_Bit.f (n : Int) = some (shl .u64 1 (n : Int)) := by
  unfold semigroupref02_Bit.f
  rw [wrap_idx (by omega) (by omega), if_pos (by omega)]
end Go.Proofs.Ytndpeoladndepaa.RelationClosesRBit
