/- The pure statement of RelationCloses: for every list of 64-bit numbers the program's closure is the reference's, or has no rows where the list is no relation. Conditions: those of the given statement alone. -/
import Derived.Test.YtndpeoladndepaaRelationClosesRRefClos
import Derived.Test.YtndpeoladndepaaRelationClosesRAwake
import Derived.Test.YtndpeoladndepaaPRelationClosesx3
namespace Go.Proofs.Ytndpeoladndepaa.Pure
set_option linter.all false
open Go Go.RowKit Go.Proofs.Ytndpeoladndepaa.PRelationCloses Go.Proofs.YtndpeoladndepaaW.PrintWords Go.Proofs.YtndpeoladndepaaW.PrintLast Go.Proofs.Ytndpeoladndepaa.Bit64 Go.Proofs.Ytndpeoladndepaa.Base Go.Proofs.Ytndpeoladndepaa.Warsh Go.Proofs.Ytndpeoladndepaa.RelationClosesRValid Go.Proofs.Ytndpeoladndepaa.RelationClosesRClos Go.Proofs.Ytndpeoladndepaa.RelationClosesRRefClos Go.Proofs.Ytndpeoladndepaa.RelationClosesRSame Go.Proofs.Ytndpeoladndepaa.RelationClosesRAwake

theorem RelationCloses : semigrouplaw02_RelationCloses.Pure := by
  intro l hm _ hw
  refine ⟨big, ?_⟩
  have hu := AllU.of_wf hw
  unfold semigrouplaw02_RelationCloses.f
  rw [rvalid_eq l hu big (by decide), awake_true big (Nat.le_refl _)]
  cases hv : vb l with
  | false =>
    rw [clos_bad l hu hv big (Nat.le_refl _)]
    simp
  | true =>
    rw [clos_eq l hu hv big (Nat.le_refl _), rclos_eq l hu hv big (Nat.le_refl _)]
    have hr : IsRel l.length l := ⟨rfl, hu, fun i j hj => (lt_pow_iff (hu.getD i)).mp (vb_row hv i) j hj⟩
    have hc := (clos_spec hr (vb_len hv)).isrel.len
    simp only [Option.bind_some, if_true]
    rw [same_eq _ _ (by rw [hc]; exact vb_len hv) big (by decide)]
    simp
end Go.Proofs.Ytndpeoladndepaa.Pure
