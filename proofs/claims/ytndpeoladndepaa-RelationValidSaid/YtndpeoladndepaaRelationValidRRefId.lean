/- What the reference's identity computes: the identity of 0 to 64 points. Condition: such a number. -/
import Derived.Test.YtndpeoladndepaaRelationValidRBit
import Derived.Test.YtndpeoladndepaaRelationValidRId
import Derived.Test.YtndpeoladndepaaPRelationValidx3
namespace Go.Proofs.Ytndpeoladndepaa.RelationValidRRefId
set_option linter.all false
open Go Go.RowKit Go.Proofs.Ytndpeoladndepaa.PRelationValid Go.Proofs.YtndpeoladndepaaW.PrintWords Go.Proofs.YtndpeoladndepaaW.PrintLast Go.Proofs.Ytndpeoladndepaa.Bit64 Go.Proofs.Ytndpeoladndepaa.Base Go.Proofs.Ytndpeoladndepaa.Warsh Go.Proofs.Ytndpeoladndepaa.Ctz Go.Proofs.Ytndpeoladndepaa.RelOps Go.Proofs.Ytndpeoladndepaa.RelationValidRBit Go.Proofs.Ytndpeoladndepaa.RelationValidRId
theorem rident_loop (n : Nat) (hn : n ≤ 64) : ∀ (d i k : Nat) (c : List Int), i + d = n → c.length = n →
    semigroupref02_Identity.l0 (d + 1 + k) c (n : Int) (i : Int) = some (iter (fillV fun i => shl .u64 1 (i : Int)) d i c) := by
  intro d
  induction d with
  | zero =>
    intro i k c h hc
    rw [show 0 + 1 + k = k + 1 by omega]
    simp only [semigroupref02_Identity.l0]
    rw [if_neg (by omega)]; rfl
  | succ d ih =>
    intro i k c h hc
    rw [show d + 1 + 1 + k = (d + 1 + k) + 1 by omega]
    simp only [semigroupref02_Identity.l0]
    rw [if_pos (by omega), bit_eq (by omega)]
    rw [Option.bind_some]
    rw [if_pos (by omega), if_pos (by omega), Int.toNat_natCast, wrap64_succ (by omega), iter_succ]
    exact ih (i + 1) k _ (by omega) (by simp; exact hc)
theorem rident_eq (n : Nat) (hn : n ≤ 64) (K : Nat) (hK : 100 ≤ K) : semigroupref02_Identity.f K (n : Int) = some (idC n) := by
  unfold semigroupref02_Identity.f
  obtain ⟨k, rfl⟩ : ∃ k, K = n + 1 + k := ⟨K - (n + 1), by omega⟩
  rw [if_pos (by omega), if_pos (by omega), Int.toNat_natCast]
  rw [Option.bind_some]
  have := rident_loop n hn n 0 k (List.replicate n 0) (by omega) (by simp)
  rw [show ((0 : Nat) : Int) = 0 from rfl] at this
  rw [List.length_replicate, this, fillV_all _ _ _ (by simp), idC_map n hn]
end Go.Proofs.Ytndpeoladndepaa.RelationValidRRefId
