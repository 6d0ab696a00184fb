/- What the laws' test of two relations answers: whether both are valid and of as many points. Condition: lists of 64-bit numbers. -/
import Derived.Test.YtndpeoladndepaaDoorRelationLeastRValid
import Derived.Test.YtndpeoladndepaaDoorPRelationLeastx4
namespace Go.Proofs.YtndpeoladndepaaDoor.RelationLeastRPair
set_option linter.all false
open Go Go.RowKit Go.Proofs.YtndpeoladndepaaDoor.PRelationLeast Go.Proofs.YtndpeoladndepaaDoorW.PrintWords Go.Proofs.YtndpeoladndepaaDoorW.PrintLast Go.Proofs.YtndpeoladndepaaDoor.Bit64 Go.Proofs.YtndpeoladndepaaDoor.Base Go.Proofs.YtndpeoladndepaaDoor.RelationLeastRValid
theorem pair_eq (a b : List Int) (ha : AllU a) (hb : AllU b) (K : Nat) (hK : 66 ≤ K) : semigrouplaw02_pair.f K a b = some (decide (a.length = b.length) && (vb a && vb b)) := by
  unfold semigrouplaw02_pair.f
  rw [rvalid_eq a ha K hK]
  rw [Option.bind_some]
  cases vb a with
  | false => rw [if_neg (by decide)]; simp
  | true =>
    rw [if_pos rfl, rvalid_eq b hb K hK]
    rw [Option.bind_some]
    cases vb b with
    | false => rw [if_neg (by decide)]; simp
    | true =>
      rw [if_pos rfl]
      by_cases h : a.length = b.length
      · rw [decide_eq_true h, h]; simp
      · rw [decide_eq_false h]
        have : ((a.length : Int) == (b.length : Int)) = false := beq_eq_false_iff_ne.mpr (by omega)
        rw [this]; rfl
end Go.Proofs.YtndpeoladndepaaDoor.RelationLeastRPair
