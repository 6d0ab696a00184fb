/- The check that each law makes of one closure is true. No condition. -/
import Derived.Test.YtndpeoladndepaaRelationClosesRClos
import Derived.Test.YtndpeoladndepaaRelationClosesRSame
import Derived.Test.YtndpeoladndepaaPRelationClosesx3
namespace Go.Proofs.Ytndpeoladndepaa.RelationClosesRAwake
set_option linter.all false
open Go Go.RowKit Go.Proofs.Ytndpeoladndepaa.PRelationCloses Go.Proofs.YtndpeoladndepaaW.PrintWords Go.Proofs.YtndpeoladndepaaW.PrintLast Go.Proofs.Ytndpeoladndepaa.Bit64 Go.Proofs.Ytndpeoladndepaa.Base Go.Proofs.Ytndpeoladndepaa.Warsh Go.Proofs.Ytndpeoladndepaa.Ctz Go.Proofs.Ytndpeoladndepaa.RelOps Go.Proofs.Ytndpeoladndepaa.RelationClosesRClos Go.Proofs.Ytndpeoladndepaa.RelationClosesRSame
theorem awake_true (K : Nat) (hK : big ≤ K) : semigrouplaw02_awake.f K = some true := by
  unfold semigrouplaw02_awake.f
  rw [clos_eq [2, 0] awake_u (by decide) K hK]
  rw [Option.bind_some]
  rw [awake_clos, same_eq _ _ (by decide) K (by unfold big at hK; omega)]
  simp
end Go.Proofs.Ytndpeoladndepaa.RelationClosesRAwake
