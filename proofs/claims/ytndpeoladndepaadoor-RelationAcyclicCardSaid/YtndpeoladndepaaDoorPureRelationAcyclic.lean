/- The pure statement of RelationAcyclic: there is a topological order exactly if every component is a single point. Conditions: those of the given statement alone. -/
import Derived.Test.YtndpeoladndepaaDoorRelationAcyclicRTopo
import Derived.Test.YtndpeoladndepaaDoorRelationAcyclicROrd
import Derived.Test.YtndpeoladndepaaDoorRelationAcyclicRAwake
import Derived.Test.YtndpeoladndepaaDoorPRelationAcyclicx5
namespace Go.Proofs.YtndpeoladndepaaDoor.Pure
set_option linter.all false
open Go Go.RowKit Go.Proofs.YtndpeoladndepaaDoor.PRelationAcyclic Go.Proofs.YtndpeoladndepaaDoorW.PrintWords Go.Proofs.YtndpeoladndepaaDoorW.PrintLast Go.Proofs.YtndpeoladndepaaDoor.Bit64 Go.Proofs.YtndpeoladndepaaDoor.Base Go.Proofs.YtndpeoladndepaaDoor.Warsh Go.Proofs.YtndpeoladndepaaDoor.Ctz Go.Proofs.YtndpeoladndepaaDoor.RelOps Go.Proofs.YtndpeoladndepaaDoor.RelationAcyclicRValid Go.Proofs.YtndpeoladndepaaDoor.RelationAcyclicRClos Go.Proofs.YtndpeoladndepaaDoor.RelationAcyclicRVb Go.Proofs.YtndpeoladndepaaDoor.RelationAcyclicRTopo Go.Proofs.YtndpeoladndepaaDoor.RelationAcyclicRComps Go.Proofs.YtndpeoladndepaaDoor.RelationAcyclicROrd Go.Proofs.YtndpeoladndepaaDoor.RelationAcyclicRAwake Go.Proofs.YtndpeoladndepaaDoor.CompC Go.Proofs.YtndpeoladndepaaDoor.Topo

theorem RelationAcyclic : semigrouplaw02_RelationAcyclic.Pure := by
  intro a _ _ ha
  have ua := AllU.of_wf ha
  refine ⟨big, ?_⟩
  unfold semigrouplaw02_RelationAcyclic.f
  rw [awake_true big (Nat.le_refl _), rvalid_eq a ua big (by decide)]
  cases va : vb a with
  | false => simp
  | true =>
    have hn := vb_len va
    rw [topo_eq a ua va big (by decide), order_eq a ua va big (Nat.le_refl _)]
    simp only [Option.bind_some, if_true]
    have h1 := topo_iff (clos_spec (is_of ua va) hn) rfl
    have h2 : ((ordC a.length (closC a)).length : Int) = (cnt (closC a) a.length : Int) := by unfold ordC; rw [mkRel_len]
    have h3 : (tell (topoS a.length a a.length [])).2 = decide (cnt (closC a) a.length = a.length) := h1
    rw [h2, h3]
    have h4 : ((cnt (closC a) a.length : Int) == (a.length : Int)) = decide (cnt (closC a) a.length = a.length) := by
      apply bool_eq
      rw [beq_iff_eq, decide_eq_true_eq]; omega
    rw [h4]
    simp
end Go.Proofs.YtndpeoladndepaaDoor.Pure
