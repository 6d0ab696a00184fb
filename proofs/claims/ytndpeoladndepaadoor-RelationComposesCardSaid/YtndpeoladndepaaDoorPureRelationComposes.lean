/- The pure statement of RelationComposes: the program's product of two relations is the reference's, and has no rows where they are no relations on as many points. Conditions: those of the given statement alone. -/
import Derived.Test.YtndpeoladndepaaDoorRelationComposesRComp
import Derived.Test.YtndpeoladndepaaDoorRelationComposesRPair
import Derived.Test.YtndpeoladndepaaDoorRelationComposesRRefComp
import Derived.Test.YtndpeoladndepaaDoorRelationComposesRSame
import Derived.Test.YtndpeoladndepaaDoorRelationComposesRAwake
import Derived.Test.YtndpeoladndepaaDoorPRelationComposesx3
namespace Go.Proofs.YtndpeoladndepaaDoor.Pure
set_option linter.all false
open Go Go.RowKit Go.Proofs.YtndpeoladndepaaDoor.PRelationComposes Go.Proofs.YtndpeoladndepaaDoorW.PrintWords Go.Proofs.YtndpeoladndepaaDoorW.PrintLast Go.Proofs.YtndpeoladndepaaDoor.Bit64 Go.Proofs.YtndpeoladndepaaDoor.Base Go.Proofs.YtndpeoladndepaaDoor.Warsh Go.Proofs.YtndpeoladndepaaDoor.Ctz Go.Proofs.YtndpeoladndepaaDoor.RelOps Go.Proofs.YtndpeoladndepaaDoor.RelationComposesRValid Go.Proofs.YtndpeoladndepaaDoor.RelationComposesRBoth Go.Proofs.YtndpeoladndepaaDoor.RelationComposesRComp Go.Proofs.YtndpeoladndepaaDoor.RelationComposesRPair Go.Proofs.YtndpeoladndepaaDoor.RelationComposesRRefComp Go.Proofs.YtndpeoladndepaaDoor.RelationComposesRSame Go.Proofs.YtndpeoladndepaaDoor.RelationComposesRClos Go.Proofs.YtndpeoladndepaaDoor.RelationComposesRAwake

theorem RelationComposes : semigrouplaw02_RelationComposes.Pure := by
  intro a b _ _ ha _ _ hb
  have ua := AllU.of_wf ha
  have ub := AllU.of_wf hb
  refine ⟨300000, ?_⟩
  unfold semigrouplaw02_RelationComposes.f
  rw [pair_eq a b ua ub 300000 (by decide), awake_true 300000 (by decide)]
  cases hp : (decide (a.length = b.length) && (vb a && vb b)) with
  | false =>
    rw [compose_bad a b ua ub hp 300000 (by decide)]
    simp
  | true =>
    simp only [Bool.and_eq_true, decide_eq_true_eq] at hp
    obtain ⟨hl, va, vb'⟩ := hp
    have ra : IsRel a.length a := Go.Proofs.YtndpeoladndepaaDoor.RelationComposesRBoth.isRel_of ua va
    have rb : IsRel a.length b := by have := Go.Proofs.YtndpeoladndepaaDoor.RelationComposesRBoth.isRel_of ub vb'; rw [← hl] at this; exact this
    rw [compose_eq a b ua ub va vb' hl 300000 (by decide), rcomp_eq a b a.length (vb_len va) ra rb 300000 (by decide)]
    simp only [Option.bind_some, if_true]
    rw [same_eq _ _ (by unfold compC; rw [mkRel_len]; exact vb_len va) 300000 (by decide)]
    simp
end Go.Proofs.YtndpeoladndepaaDoor.Pure
