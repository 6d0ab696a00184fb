/- What the reference's test of a bit and its set of one point answer. Condition: 64-bit numbers, an index below 64. -/
import Derived.Test.YtndpeoladndepaaRelOps
import Derived.Test.YtndpeoladndepaaPRelationClosesx3
namespace Go.Proofs.Ytndpeoladndepaa.RelationClosesRHas
set_option linter.all false
open Go Go.RowKit Go.Proofs.Ytndpeoladndepaa.PRelationCloses Go.Proofs.YtndpeoladndepaaW.PrintWords Go.Proofs.YtndpeoladndepaaW.PrintLast Go.Proofs.Ytndpeoladndepaa.Bit64 Go.Proofs.Ytndpeoladndepaa.Base Go.Proofs.Ytndpeoladndepaa.Warsh Go.Proofs.Ytndpeoladndepaa.Ctz Go.Proofs.Ytndpeoladndepaa.RelOps
theorem has_eq {x : Int} (hx : U x) {n : Nat} (h : n < 64) : semigroupref02_Has.f x (n : Int) = some (tb x n) := by
  unfold semigroupref02_Has.f
  rw [wrap_idx (by omega) (by omega), if_pos (by omega), bit_at_eq hx (by omega) (by omega), Int.toNat_natCast]
end Go.Proofs.Ytndpeoladndepaa.RelationClosesRHas
