/- What the program's test of two relations answers: whether both are valid and of as many points. Condition: lists of 64-bit numbers. -/
import Derived.Test.YtndpeoladndepaaDoorRelationCondensesRValid
import Derived.Test.YtndpeoladndepaaDoorRelOps
import Derived.Test.YtndpeoladndepaaDoorPRelationCondensesx6
namespace Go.Proofs.YtndpeoladndepaaDoor.RelationCondensesRBoth
set_option linter.all false
open Go Go.RowKit Go.Proofs.YtndpeoladndepaaDoor.PRelationCondenses Go.Proofs.YtndpeoladndepaaDoorW.PrintWords Go.Proofs.YtndpeoladndepaaDoorW.PrintLast Go.Proofs.YtndpeoladndepaaDoor.Bit64 Go.Proofs.YtndpeoladndepaaDoor.Base Go.Proofs.YtndpeoladndepaaDoor.Warsh Go.Proofs.YtndpeoladndepaaDoor.Ctz Go.Proofs.YtndpeoladndepaaDoor.RelOps Go.Proofs.YtndpeoladndepaaDoor.RelationCondensesRValid
theorem rd_nat (c : List Int) (i : Nat) : rd c (i : Int) = c.getD i 0 := by unfold rd; rw [Int.toNat_natCast]
theorem isRel_of {l : List Int} (hu : AllU l) (hv : vb l = true) : IsRel l.length l := ⟨rfl, hu, fun i j hj => (lt_pow_iff (hu.getD i)).mp (vb_row hv i) j hj⟩
theorem both_eq (a b : List Int) (ha : AllU a) (hb : AllU b) (K : Nat) (hK : 66 ≤ K) : relation_both.f K a b = some (decide (a.length = b.length) && (vb a && vb b)) := by
  unfold relation_both.f
  by_cases h : a.length = b.length
  · rw [if_pos (by omega), decide_eq_true h, valid_eq a ha K hK]
    rw [Option.bind_some]
    cases vb a with
    | false => rw [if_neg (by decide)]; rfl
    | true => rw [if_pos rfl, valid_eq b hb K hK]; rfl
  · rw [if_neg (by omega), decide_eq_false h]; rfl
end Go.Proofs.YtndpeoladndepaaDoor.RelationCondensesRBoth
