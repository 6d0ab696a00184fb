/- What the program's identity computes: the identity of 0 to 64 points, else no rows. Condition: none. -/
import Derived.Test.YtndpeoladndepaaDoorRelOps
import Derived.Test.YtndpeoladndepaaDoorPRelationCondensesx6
namespace Go.Proofs.YtndpeoladndepaaDoor.RelationCondensesRId
set_option linter.all false
open Go Go.RowKit Go.Proofs.YtndpeoladndepaaDoor.PRelationCondenses Go.Proofs.YtndpeoladndepaaDoorW.PrintWords Go.Proofs.YtndpeoladndepaaDoorW.PrintLast Go.Proofs.YtndpeoladndepaaDoor.Bit64 Go.Proofs.YtndpeoladndepaaDoor.Base Go.Proofs.YtndpeoladndepaaDoor.Warsh Go.Proofs.YtndpeoladndepaaDoor.Ctz Go.Proofs.YtndpeoladndepaaDoor.RelOps
theorem ident_loop (n : Nat) (hn : n ≤ 64) : ∀ (d i k : Nat) (c : List Int), i + d = n → c.length = n →
    relation_Identity.l0 (d + 1 + k) c (n : Int) (i : Int) = some (iter (fillV fun i => shl .u64 1 (i : Int)) d i c) := by
  intro d
  induction d with
  | zero =>
    intro i k c h hc
    rw [show 0 + 1 + k = k + 1 by omega]
    simp only [relation_Identity.l0]
    rw [if_neg (by omega)]; rfl
  | succ d ih =>
    intro i k c h hc
    rw [show d + 1 + 1 + k = (d + 1 + k) + 1 by omega]
    simp only [relation_Identity.l0]
    rw [if_pos (by omega), wrap_idx (by omega) (by omega), if_pos (by omega), if_pos (by omega), if_pos (by omega), Int.toNat_natCast, wrap64_succ (by omega), iter_succ]
    exact ih (i + 1) k _ (by omega) (by simp; exact hc)
theorem idC_map (n : Nat) (hn : n ≤ 64) : (List.range n).map (fun (i : Nat) => shl .u64 1 (i : Int)) = idC n := by
  apply mkRel_map hn (fun i hi => U_shl (by omega) (by omega))
  intro i hi j hj
  rw [tb_shl (by omega) (by omega), Int.toNat_natCast]
  by_cases e : j = i
  · subst e; simp [hi]
  · rw [decide_eq_false e, decide_eq_false (show ¬ i = j from fun h => e h.symm)]; simp
theorem ident_eq (n : Nat) (hn : n ≤ 64) (K : Nat) (hK : 100 ≤ K) : relation_Identity.f K (n : Int) = some (idC n) := by
  unfold relation_Identity.f
  obtain ⟨k, rfl⟩ : ∃ k, K = (n + 1 + k) + 1 := ⟨K - (n + 2), by omega⟩
  rw [if_neg (by omega)]
  simp only [relation_Identity.j0]
  rw [if_neg (by simp; omega), if_pos (by omega), if_pos (by omega), Int.toNat_natCast]
  have := ident_loop n hn n 0 k (List.replicate n 0) (by omega) (by simp)
  rw [show ((0 : Nat) : Int) = 0 from rfl] at this
  rw [this, fillV_all _ _ _ (by simp), idC_map n hn]
theorem ident_bad (a : Int) (h : a < 0 ∨ 64 < a) (K : Nat) (hK : 100 ≤ K) : relation_Identity.f K a = some [] := by
  unfold relation_Identity.f
  obtain ⟨k, rfl⟩ : ∃ k, K = k + 1 := ⟨K - 1, by omega⟩
  by_cases h0 : a < 0
  · rw [if_pos h0]
    simp only [relation_Identity.j0]
    first | rw [if_pos rfl] | rw [if_pos trivial]
  · rw [if_neg h0, decide_eq_true (by omega)]
    simp only [relation_Identity.j0]
    first | rw [if_pos rfl] | rw [if_pos trivial]
end Go.Proofs.YtndpeoladndepaaDoor.RelationCondensesRId
