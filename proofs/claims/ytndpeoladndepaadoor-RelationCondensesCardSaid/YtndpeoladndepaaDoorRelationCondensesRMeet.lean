/- What the program's intersection computes: the relation of the rows taken together one by one, where both are valid and of as many points, else no rows. Condition: lists of 64-bit numbers. -/
import Derived.Test.YtndpeoladndepaaDoorRelationCondensesRBoth
import Derived.Test.YtndpeoladndepaaDoorPRelationCondensesx6
namespace Go.Proofs.YtndpeoladndepaaDoor.RelationCondensesRMeet
set_option linter.all false
open Go Go.RowKit Go.Proofs.YtndpeoladndepaaDoor.PRelationCondenses Go.Proofs.YtndpeoladndepaaDoorW.PrintWords Go.Proofs.YtndpeoladndepaaDoorW.PrintLast Go.Proofs.YtndpeoladndepaaDoor.Bit64 Go.Proofs.YtndpeoladndepaaDoor.Base Go.Proofs.YtndpeoladndepaaDoor.Warsh Go.Proofs.YtndpeoladndepaaDoor.Ctz Go.Proofs.YtndpeoladndepaaDoor.RelOps Go.Proofs.YtndpeoladndepaaDoor.RelationCondensesRValid Go.Proofs.YtndpeoladndepaaDoor.RelationCondensesRBoth
theorem meet_loop (a b : List Int) (hl : a.length = b.length) (hn : a.length ≤ 64) : ∀ (d i k : Nat) (c : List Int), i + d = a.length → c.length = a.length →
    relation_Meet.l0 (d + 1 + k) a b c (a.length : Int) (i : Int) = some (iter (fillV fun i => Go.bits .and .u64 (a.getD i 0) (b.getD i 0)) d i c) := by
  intro d
  induction d with
  | zero =>
    intro i k c h hc
    rw [show 0 + 1 + k = k + 1 by omega]
    simp only [relation_Meet.l0]
    rw [if_neg (by omega)]; rfl
  | succ d ih =>
    intro i k c h hc
    rw [show d + 1 + 1 + k = (d + 1 + k) + 1 by omega]
    simp only [relation_Meet.l0]
    rw [if_pos (by omega), if_pos (by omega), if_pos (by omega), if_pos (by omega), if_pos (by omega), rd_nat, rd_nat, Int.toNat_natCast, wrap64_succ (by omega), iter_succ]
    exact ih (i + 1) k _ (by omega) (by simp; exact hc)
theorem meet_map (a b : List Int) (ha : AllU a) (hb : AllU b) (va : vb a = true) (hn : a.length ≤ 64) (vbb : vb b = true) (hl : a.length = b.length) :
    (List.range a.length).map (fun i => Go.bits .and .u64 (a.getD i 0) (b.getD i 0)) = meetC a.length a b := by
  have ra := isRel_of ha va
  have rb := isRel_of hb vbb
  apply mkRel_map hn (fun i _ => U_and (ha.getD i) (hb.getD i))
  intro i hi j hj
  rw [tb_and (ha.getD i) (hb.getD i)]
  by_cases hjn : j < a.length
  · rw [decide_eq_true hjn, Bool.true_and]; rfl
  · rw [decide_eq_false hjn, Bool.false_and]
    have h1 := ra.out i j (by omega)
    have h2 := rb.out i j (by omega)
    unfold rel at h1 h2
    rw [h1, h2]; rfl
theorem meet_eq (a b : List Int) (ha : AllU a) (hb : AllU b) (va : vb a = true) (vbb : vb b = true) (hl : a.length = b.length) (K : Nat) (hK : 200 ≤ K) : relation_Meet.f K a b = some (meetC a.length a b) := by
  have hn := vb_len va
  unfold relation_Meet.f
  rw [both_eq a b ha hb K (by omega), va, vbb, decide_eq_true hl]
  rw [Option.bind_some]
  rw [if_pos (by decide), if_pos (by omega), if_pos (by omega), Int.toNat_natCast]
  obtain ⟨k, rfl⟩ : ∃ k, K = a.length + 1 + k := ⟨K - (a.length + 1), by omega⟩
  have := meet_loop a b hl hn a.length 0 k (List.replicate a.length 0) (by omega) (by simp)
  rw [show ((0 : Nat) : Int) = 0 from rfl] at this
  rw [this, fillV_all _ _ _ (by simp), meet_map a b ha hb va hn vbb hl]
theorem meet_bad (a b : List Int) (ha : AllU a) (hb : AllU b) (h : (decide (a.length = b.length) && (vb a && vb b)) = false) (K : Nat) (hK : 200 ≤ K) : relation_Meet.f K a b = some [] := by
  unfold relation_Meet.f
  rw [both_eq a b ha hb K (by omega), h]
  rw [Option.bind_some]
  rw [if_neg (by decide)]
end Go.Proofs.YtndpeoladndepaaDoor.RelationCondensesRMeet
