/- The check that each law makes of one closure is true. No condition. -/
import Derived.Test.YtndpeoladndepaaDoorRelationCondensesRClos
import Derived.Test.YtndpeoladndepaaDoorRelationCondensesRSame
import Derived.Test.YtndpeoladndepaaDoorPRelationCondensesx6
namespace Go.Proofs.YtndpeoladndepaaDoor.RelationCondensesRAwake
set_option linter.all false
open Go Go.RowKit Go.Proofs.YtndpeoladndepaaDoor.PRelationCondenses Go.Proofs.YtndpeoladndepaaDoorW.PrintWords Go.Proofs.YtndpeoladndepaaDoorW.PrintLast Go.Proofs.YtndpeoladndepaaDoor.Bit64 Go.Proofs.YtndpeoladndepaaDoor.Base Go.Proofs.YtndpeoladndepaaDoor.Warsh Go.Proofs.YtndpeoladndepaaDoor.Ctz Go.Proofs.YtndpeoladndepaaDoor.RelOps Go.Proofs.YtndpeoladndepaaDoor.RelationCondensesRClos Go.Proofs.YtndpeoladndepaaDoor.RelationCondensesRSame
theorem awake_true (K : Nat) (hK : big ≤ K) : semigrouplaw02_awake.f K = some true := by
  unfold semigrouplaw02_awake.f
  rw [clos_eq [2, 0] awake_u (by decide) K hK]
  rw [Option.bind_some]
  rw [awake_clos, same_eq _ _ (by decide) K (by unfold big at hK; omega)]
  simp
end Go.Proofs.YtndpeoladndepaaDoor.RelationCondensesRAwake
