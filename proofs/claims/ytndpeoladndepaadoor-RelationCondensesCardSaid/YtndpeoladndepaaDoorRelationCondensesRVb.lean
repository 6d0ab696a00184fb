/- A relation passes the test of validity. Condition: at most 64 points. -/
import Derived.Test.YtndpeoladndepaaDoorRelationCondensesRValid
import Derived.Test.YtndpeoladndepaaDoorRelOps
import Derived.Test.YtndpeoladndepaaDoorPRelationCondensesx6
namespace Go.Proofs.YtndpeoladndepaaDoor.RelationCondensesRVb
set_option linter.all false
open Go Go.RowKit Go.Proofs.YtndpeoladndepaaDoor.PRelationCondenses Go.Proofs.YtndpeoladndepaaDoorW.PrintWords Go.Proofs.YtndpeoladndepaaDoorW.PrintLast Go.Proofs.YtndpeoladndepaaDoorW.PrintMore Go.Proofs.YtndpeoladndepaaDoor.Bit64 Go.Proofs.YtndpeoladndepaaDoor.Base Go.Proofs.YtndpeoladndepaaDoor.Warsh Go.Proofs.YtndpeoladndepaaDoor.Ctz Go.Proofs.YtndpeoladndepaaDoor.RelOps Go.Proofs.YtndpeoladndepaaDoor.RelationCondensesRValid
theorem vb_of {n : Nat} {l : List Int} (h : IsRel n l) (hn : n ≤ 64) : vb l = true := by
  unfold vb
  rw [h.len, decide_eq_true hn, Bool.true_and, List.all_eq_true]
  intro x hx
  obtain ⟨i, hi, rfl⟩ := List.getElem_of_mem hx
  rw [decide_eq_true_iff, lt_pow_iff (h.u _ hx)]
  intro j hj
  have := h.out i j hj
  unfold rel at this
  rw [List.getD_eq_getElem?_getD, List.getElem?_eq_getElem hi] at this
  exact this
theorem is_of {l : List Int} (hu : AllU l) (hv : vb l = true) : IsRel l.length l := ⟨rfl, hu, fun i j hj => (lt_pow_iff (hu.getD i)).mp (vb_row hv i) j hj⟩
end Go.Proofs.YtndpeoladndepaaDoor.RelationCondensesRVb
