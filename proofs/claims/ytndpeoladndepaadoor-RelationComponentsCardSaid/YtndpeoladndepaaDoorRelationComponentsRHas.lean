/- What the reference's test of a bit and its set of one point answer. Condition: 64-bit numbers, an index below 64. -/
import Derived.Test.YtndpeoladndepaaDoorRelOps
import Derived.Test.YtndpeoladndepaaDoorPRelationComponentsx7
namespace Go.Proofs.YtndpeoladndepaaDoor.RelationComponentsRHas
set_option linter.all false
open Go Go.RowKit Go.Proofs.YtndpeoladndepaaDoor.PRelationComponents Go.Proofs.YtndpeoladndepaaDoorW.PrintWords Go.Proofs.YtndpeoladndepaaDoorW.PrintLast Go.Proofs.YtndpeoladndepaaDoor.Bit64 Go.Proofs.YtndpeoladndepaaDoor.Base Go.Proofs.YtndpeoladndepaaDoor.Warsh Go.Proofs.YtndpeoladndepaaDoor.Ctz Go.Proofs.YtndpeoladndepaaDoor.RelOps
theorem has_eq {x : Int} (hx : U x) {n : Nat} (h : n < 64) : semigroupref02_Has.f x (n : Int) = some (tb x n) := by
  unfold semigroupref02_Has.f
  rw [wrap_idx (by omega) (by omega), if_pos (by omega), bit_at_eq hx (by omega) (by omega), Int.toNat_natCast]
end Go.Proofs.YtndpeoladndepaaDoor.RelationComponentsRHas
