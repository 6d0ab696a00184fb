/- The pure statement of RelationValid: the program and the reference take the same lists for relations, and the program's identity is the reference's and valid for 0 to 64 points, and has no rows else. Conditions: those of the given statement alone. -/
import Derived.Test.YtndpeoladndepaaRelationValidRRefId
import Derived.Test.YtndpeoladndepaaRelationValidRAwake
import Derived.Test.YtndpeoladndepaaPRelationValidx3
namespace Go.Proofs.Ytndpeoladndepaa.Pure
set_option linter.all false
open Go Go.RowKit Go.Proofs.Ytndpeoladndepaa.PRelationValid Go.Proofs.YtndpeoladndepaaW.PrintWords Go.Proofs.YtndpeoladndepaaW.PrintLast Go.Proofs.Ytndpeoladndepaa.Bit64 Go.Proofs.Ytndpeoladndepaa.Base Go.Proofs.Ytndpeoladndepaa.Warsh Go.Proofs.Ytndpeoladndepaa.RelOps Go.Proofs.Ytndpeoladndepaa.RelationValidRValid Go.Proofs.Ytndpeoladndepaa.RelationValidRClos Go.Proofs.Ytndpeoladndepaa.RelationValidRId Go.Proofs.Ytndpeoladndepaa.RelationValidRRefId Go.Proofs.Ytndpeoladndepaa.RelationValidRSame Go.Proofs.Ytndpeoladndepaa.RelationValidRAwake

theorem vb_of {n : Nat} {l : List Int} (h : IsRel n l) (hn : n ≤ 64) : vb l = true := by
  unfold vb
  rw [h.len, decide_eq_true hn, Bool.true_and, List.all_eq_true]
  intro x hx
  obtain ⟨i, hi, rfl⟩ := List.getElem_of_mem hx
  rw [decide_eq_true_iff, lt_pow_iff (h.u _ hx)]
  intro j hj
  have := h.out i j hj
  unfold rel at this
  rw [List.getD_eq_getElem?_getD, List.getElem?_eq_getElem hi] at this
  exact this

theorem RelationValid : semigrouplaw02_RelationValid.Pure := by
  intro l a hm _ hw ha
  refine ⟨big + 1, ?_⟩
  have hu := AllU.of_wf hw
  unfold semigrouplaw02_RelationValid.f
  by_cases h : a < 0 ∨ 64 < a
  · rw [ident_bad a h (big + 1) (by decide)]
    rw [Option.bind_some]
    have key : semigrouplaw02_RelationValid.j0 (big + 1) l a [] true = some true := by
      simp only [semigrouplaw02_RelationValid.j0]
      first | rw [if_pos rfl] | rw [if_pos trivial]
      rw [valid_eq l hu big (by decide), rvalid_eq l hu big (by decide)]
      rw [Option.bind_some, Option.bind_some]
      rw [if_pos (by simp), if_pos (by rfl), awake_true big (Nat.le_refl _)]; rfl
    by_cases h0 : a < 0
    · rw [if_pos h0]; exact key
    · rw [if_neg h0, decide_eq_true (by omega)]; exact key
  · obtain ⟨n, rfl⟩ : ∃ n : Nat, a = n := ⟨a.toNat, by omega⟩
    have hn : n ≤ 64 := by omega
    rw [ident_eq n hn (big + 1) (by decide)]
    rw [Option.bind_some]
    rw [if_neg (by omega), decide_eq_false (by omega)]
    simp only [semigrouplaw02_RelationValid.j0]
    have hi : IsRel n (idC n) := mkRel_is hn (fun i j => decide (i = j))
    rw [if_neg (by decide), valid_eq l hu big (by decide), rvalid_eq l hu big (by decide)]
    rw [Option.bind_some, Option.bind_some]
    rw [if_pos (by simp), rident_eq n hn big (by decide)]
    rw [Option.bind_some]
    rw [same_eq _ _ (by rw [hi.len]; exact hn) big (by decide)]
    rw [Option.bind_some]
    rw [if_pos (by simp), valid_eq _ hi.u big (by decide), vb_of hi hn]
    rw [Option.bind_some]
    rw [if_pos rfl, awake_true big (Nat.le_refl _)]; rfl
end Go.Proofs.Ytndpeoladndepaa.Pure
