/- The pure statement of RelationComponents: the program's numbers of the components and their order are the reference's, or empty where the list is no relation. Conditions: those of the given statement alone. -/
import Derived.Test.YtndpeoladndepaaDoorRelationComponentsRRefOrd
import Derived.Test.YtndpeoladndepaaDoorRelationComponentsRLSame
import Derived.Test.YtndpeoladndepaaDoorRelationComponentsRAwake
import Derived.Test.YtndpeoladndepaaDoorPRelationComponentsx7
namespace Go.Proofs.YtndpeoladndepaaDoor.Pure
set_option linter.all false
open Go Go.RowKit Go.Proofs.YtndpeoladndepaaDoor.PRelationComponents Go.Proofs.YtndpeoladndepaaDoorW.PrintWords Go.Proofs.YtndpeoladndepaaDoorW.PrintLast Go.Proofs.YtndpeoladndepaaDoor.Bit64 Go.Proofs.YtndpeoladndepaaDoor.Base Go.Proofs.YtndpeoladndepaaDoor.Warsh Go.Proofs.YtndpeoladndepaaDoor.Ctz Go.Proofs.YtndpeoladndepaaDoor.RelOps Go.Proofs.YtndpeoladndepaaDoor.RelationComponentsRValid Go.Proofs.YtndpeoladndepaaDoor.RelationComponentsRClos Go.Proofs.YtndpeoladndepaaDoor.RelationComponentsRComps Go.Proofs.YtndpeoladndepaaDoor.RelationComponentsRRefComps Go.Proofs.YtndpeoladndepaaDoor.RelationComponentsROrd Go.Proofs.YtndpeoladndepaaDoor.RelationComponentsRRefOrd Go.Proofs.YtndpeoladndepaaDoor.RelationComponentsRLSame Go.Proofs.YtndpeoladndepaaDoor.RelationComponentsRSame Go.Proofs.YtndpeoladndepaaDoor.RelationComponentsRAwake Go.Proofs.YtndpeoladndepaaDoor.CompC

theorem RelationComponents : semigrouplaw02_RelationComponents.Pure := by
  intro a _ _ ha
  have ua := AllU.of_wf ha
  refine ⟨big, ?_⟩
  unfold semigrouplaw02_RelationComponents.f
  rw [awake_true big (Nat.le_refl _), rvalid_eq a ua big (by decide)]
  cases va : vb a with
  | false =>
    rw [comps_bad a ua va big (Nat.le_refl _), order_bad a ua va big (Nat.le_refl _)]
    simp
  | true =>
    have hn := vb_len va
    have hcn := cnt_le (c := closC a) a.length
    rw [comps_eq a ua va big (Nat.le_refl _), order_eq a ua va big (Nat.le_refl _), rcomps_eq a ua va big (Nat.le_refl _), rorder_eq a ua va big (Nat.le_refl _)]
    simp only [Option.bind_some, if_true]
    rw [lsame_eq _ _ (by rw [compL_len]; exact hn) big (by decide), same_eq _ _ (by unfold ordC; rw [mkRel_len]; omega) big (by decide)]
    simp
end Go.Proofs.YtndpeoladndepaaDoor.Pure
