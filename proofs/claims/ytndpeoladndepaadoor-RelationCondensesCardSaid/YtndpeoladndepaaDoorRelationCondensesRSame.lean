/- What the reference's test of two relations answers: whether they are equal. Condition: at most 64 rows. -/
import Derived.Test.YtndpeoladndepaaDoorBase
import Derived.Test.YtndpeoladndepaaDoorPRelationCondensesx6
namespace Go.Proofs.YtndpeoladndepaaDoor.RelationCondensesRSame
set_option linter.all false
open Go Go.RowKit Go.Proofs.YtndpeoladndepaaDoor.PRelationCondenses Go.Proofs.YtndpeoladndepaaDoorW.PrintWords Go.Proofs.YtndpeoladndepaaDoorW.PrintLast Go.Proofs.YtndpeoladndepaaDoor.Bit64 Go.Proofs.YtndpeoladndepaaDoor.Base

theorem same_loop (a b : List Int) (hl : a.length = b.length) (hm : a.length ≤ 9223372036854775807) : ∀ (d i k : Nat), i + d = a.length →
    semigroupref02_Same.l0 (d + 1 + k) a b (a.length : Int) (i : Int) = some (decide (a.drop i = b.drop i)) := by
  intro d
  induction d with
  | zero =>
    intro i k h
    rw [show 0 + 1 + k = k + 1 by omega]
    simp only [semigroupref02_Same.l0]
    rw [if_neg (by omega), List.drop_eq_nil_of_le (by omega), List.drop_eq_nil_of_le (by omega), decide_eq_true rfl]
  | succ d ih =>
    intro i k h
    have hi : i < a.length := by omega
    have hj : i < b.length := by omega
    rw [show d + 1 + 1 + k = (d + 1 + k) + 1 by omega]
    simp only [semigroupref02_Same.l0]
    have e : rd a (i : Int) = a[i] := by
      unfold rd; rw [Int.toNat_natCast, List.getD_eq_getElem?_getD, List.getElem?_eq_getElem hi]; rfl
    have e2 : rd b (i : Int) = b[i] := by
      unfold rd; rw [Int.toNat_natCast, List.getD_eq_getElem?_getD, List.getElem?_eq_getElem hj]; rfl
    rw [if_pos (by omega), if_pos (by omega), if_pos (by omega), if_pos (by omega), e, e2, wrap64_succ (by omega), ih (i + 1) k (by omega), List.drop_eq_getElem_cons hi, List.drop_eq_getElem_cons hj]
    by_cases hb : a[i] = b[i]
    · rw [if_pos hb, hb]; congr 1; exact decide_eq_decide.mpr (by rw [List.cons.injEq]; exact ⟨fun h => ⟨rfl, h⟩, fun h => h.2⟩)
    · rw [if_neg hb, decide_eq_false (fun h => hb (List.cons.inj h).1)]
theorem same_eq (a b : List Int) (hm : a.length ≤ 64) (K : Nat) (hK : 65 ≤ K) : semigroupref02_Same.f K a b = some (decide (a = b)) := by
  unfold semigroupref02_Same.f
  by_cases hl : a.length = b.length
  · rw [if_pos (by omega)]
    obtain ⟨k, rfl⟩ : ∃ k, K = a.length + 1 + k := ⟨K - (a.length + 1), by omega⟩
    have := same_loop a b hl (by omega) a.length 0 k (by omega)
    rw [List.drop_zero, List.drop_zero] at this
    exact this
  · rw [if_neg (by omega), decide_eq_false (fun h => hl (by rw [h]))]

end Go.Proofs.YtndpeoladndepaaDoor.RelationCondensesRSame
