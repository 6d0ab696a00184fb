/- The pure statement of RelationSorts: the program's topological order, or its answer that there is none, is the reference's. Conditions: those of the given statement alone. -/
import Derived.Test.YtndpeoladndepaaDoorRelationSortsRRefTopo
import Derived.Test.YtndpeoladndepaaDoorRelationSortsRLSame
import Derived.Test.YtndpeoladndepaaDoorRelationSortsRAwake
import Derived.Test.YtndpeoladndepaaDoorPRelationSortsx4
namespace Go.Proofs.YtndpeoladndepaaDoor.Pure
set_option linter.all false
open Go Go.RowKit Go.Proofs.YtndpeoladndepaaDoor.PRelationSorts Go.Proofs.YtndpeoladndepaaDoorW.PrintWords Go.Proofs.YtndpeoladndepaaDoorW.PrintLast Go.Proofs.YtndpeoladndepaaDoor.Bit64 Go.Proofs.YtndpeoladndepaaDoor.Base Go.Proofs.YtndpeoladndepaaDoor.Warsh Go.Proofs.YtndpeoladndepaaDoor.Ctz Go.Proofs.YtndpeoladndepaaDoor.RelOps Go.Proofs.YtndpeoladndepaaDoor.RelationSortsRValid Go.Proofs.YtndpeoladndepaaDoor.RelationSortsRVb Go.Proofs.YtndpeoladndepaaDoor.RelationSortsRTopo Go.Proofs.YtndpeoladndepaaDoor.RelationSortsRRefTopo Go.Proofs.YtndpeoladndepaaDoor.RelationSortsRLSame Go.Proofs.YtndpeoladndepaaDoor.RelationSortsRClos Go.Proofs.YtndpeoladndepaaDoor.RelationSortsRAwake Go.Proofs.YtndpeoladndepaaDoor.Topo

theorem RelationSorts : semigrouplaw02_RelationSorts.Pure := by
  intro a _ _ ha
  have ua := AllU.of_wf ha
  refine ⟨300000, ?_⟩
  unfold semigrouplaw02_RelationSorts.f
  rw [awake_true 300000 (by decide), rvalid_eq a ua 300000 (by decide)]
  cases va : vb a with
  | false =>
    rw [topo_bad a ua va 300000 (by decide)]
    simp
  | true =>
    have hn := vb_len va
    rw [topo_eq a ua va 300000 (by decide), rtopo_eq a a.length hn (is_of ua va) 300000 (by decide)]
    simp only [Option.bind_some, if_true]
    rw [lsame_eq _ _ (tell_len _ _ _ _ (by simpa using hn)) 300000 (by decide)]
    simp
end Go.Proofs.YtndpeoladndepaaDoor.Pure
