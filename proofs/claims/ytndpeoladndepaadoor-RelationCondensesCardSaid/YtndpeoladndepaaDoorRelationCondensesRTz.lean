/- What the library's count of trailing zeros answers, in plain words: the lowest bit. Condition: a 64-bit number that is not zero. -/
import Derived.Test.YtndpeoladndepaaDoorRelOps
import Derived.Test.YtndpeoladndepaaDoorPRelationCondensesx6
namespace Go.Proofs.YtndpeoladndepaaDoor.RelationCondensesRTz
set_option linter.all false
open Go Go.RowKit Go.Proofs.YtndpeoladndepaaDoor.PRelationCondenses Go.Proofs.YtndpeoladndepaaDoorW.PrintWords Go.Proofs.YtndpeoladndepaaDoor.Bit64 Go.Proofs.YtndpeoladndepaaDoor.Base Go.Proofs.YtndpeoladndepaaDoor.Ctz

theorem tz_low {x : Int} (hx : U x) (h : x ≠ 0) {j : Nat} (hj : j < 64) (hb : tb x j = true) (hlo : ∀ i, i < j → tb x i = false) : bits_TrailingZeros64.f x = some (j : Int) := by
  unfold bits_TrailingZeros64.f
  rw [if_neg h]
  congr 1
  unfold tzIdx
  rw [and_neg hx hj hb hlo, IntKind.wrap_u64]
  have e : ((((2 ^ j : Nat) : Int) * 285870213051353865 % 18446744073709551616) / 288230376151711744).toNat = 2 ^ j * 285870213051353865 % 18446744073709551616 / 288230376151711744 := by
    generalize 2 ^ j = p
    have h : ((p : Int) * 285870213051353865 % 18446744073709551616) / 288230376151711744 = ((p * 285870213051353865 % 18446744073709551616 / 288230376151711744 : Nat) : Int) := by simp
    rw [h, Int.toNat_natCast]
  rw [e]
  exact table_at j hj
end Go.Proofs.YtndpeoladndepaaDoor.RelationCondensesRTz
