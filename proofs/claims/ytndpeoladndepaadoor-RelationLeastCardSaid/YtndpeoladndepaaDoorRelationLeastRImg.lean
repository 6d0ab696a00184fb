/- What the program's image of a set computes: the union of the rows of the points in the set. Conditions: at most 64 rows of 64-bit numbers, a 64-bit set. -/
import Derived.Test.YtndpeoladndepaaDoorRelationLeastRTz
import Derived.Test.YtndpeoladndepaaDoorRelationLeastRValid
import Derived.Test.YtndpeoladndepaaDoorPRelationLeastx4
namespace Go.Proofs.YtndpeoladndepaaDoor.RelationLeastRImg
set_option linter.all false
open Go Go.RowKit Go.Proofs.YtndpeoladndepaaDoor.PRelationLeast Go.Proofs.YtndpeoladndepaaDoorW.PrintWords Go.Proofs.YtndpeoladndepaaDoorW.PrintLast Go.Proofs.YtndpeoladndepaaDoor.Bit64 Go.Proofs.YtndpeoladndepaaDoor.Base Go.Proofs.YtndpeoladndepaaDoor.Warsh Go.Proofs.YtndpeoladndepaaDoor.Ctz Go.Proofs.YtndpeoladndepaaDoor.RelOps Go.Proofs.YtndpeoladndepaaDoor.RelationLeastRValid Go.Proofs.YtndpeoladndepaaDoor.RelationLeastRTz

theorem image_loop (r : List Int) (hu : AllU r) (hn : r.length ≤ 64) : ∀ (m k : Nat) (o s : Int), U s → (members s).length = m → (∀ j, tb s j = true → j < r.length) →
    relation_image.l0 (m + 1 + k) r o s = some ((members s).foldl (fold r) o) := by
  intro m
  induction m with
  | zero =>
    intro k o s hs hm hb
    have e : s = 0 := by
      apply eq_zero hs
      intro j hj
      cases ht : tb s j with
      | false => rfl
      | true =>
        have : j ∈ members s := mem_members.mpr ⟨hj, ht⟩
        rw [List.eq_nil_of_length_eq_zero hm] at this
        cases this
    subst e
    rw [show 0 + 1 + k = k + 1 by omega]
    simp only [relation_image.l0]
    rw [if_pos trivial, members_zero]; rfl
  | succ m ih =>
    intro k o s hs hm hb
    have hne : s ≠ 0 := by
      intro e; subst e; rw [members_zero] at hm; cases hm
    obtain ⟨j, hj, h1, h2⟩ := lowest hs hne
    have hst := members_step hs hj h1 h2
    have hjr := hb j h1
    rw [show m + 1 + 1 + k = (m + 1 + k) + 1 by omega]
    simp only [relation_image.l0]
    rw [if_neg hne, tz_low hs hne hj h1 h2]
    rw [Option.bind_some]
    rw [if_pos (by omega), if_pos (by omega), hst, List.foldl_cons]
    have er : rd r (j : Int) = r.getD j 0 := by unfold rd; rw [Int.toNat_natCast]
    rw [er]
    exact ih k _ _ (U_and hs U_pred) (by rw [hst] at hm; simpa using hm) (fun i hi => hb i (by rw [and_pred hs h1 h2] at hi; simp at hi; exact hi.1))

theorem image_eq (r : List Int) (hu : AllU r) (hn : r.length ≤ 64) (s : Int) (hs : U s) (K : Nat) (hK : 65 ≤ K) : relation_image.f K r s = some (imgC r s) := by
  unfold relation_image.f
  rw [mask_eq hn]
  rw [Option.bind_some]
  have hp := pow_le hn
  have h1 := pow_pos' r.length
  have hm : U (((2 ^ r.length - 1 : Nat)) : Int) := U_nat (by omega)
  have hs' := U_and hs hm
  have hl := members_len (Go.bits .and .u64 s (((2 ^ r.length - 1 : Nat)) : Int))
  have hbit : ∀ j, tb (Go.bits .and .u64 s (((2 ^ r.length - 1 : Nat)) : Int)) j = (tb s j && decide (j < r.length)) := fun j => by rw [tb_and hs hm, tb_ones hn]
  obtain ⟨k, rfl⟩ : ∃ k, K = (members (Go.bits .and .u64 s (((2 ^ r.length - 1 : Nat)) : Int))).length + 1 + k := ⟨K - ((members (Go.bits .and .u64 s (((2 ^ r.length - 1 : Nat)) : Int))).length + 1), by omega⟩
  rw [image_loop r hu hn _ k 0 _ hs' rfl (fun j hj => by rw [hbit] at hj; simp at hj; exact hj.2)]
  obtain ⟨g1, g2⟩ := fold_spec hu (members (Go.bits .and .u64 s (((2 ^ r.length - 1 : Nat)) : Int))) 0 U_zero
  congr 1
  apply imgC_of g1
  intro j hj
  rw [g2 j, tb_zero, Bool.false_or]
  apply bool_eq
  rw [anyB_iff, List.any_eq_true]
  constructor
  · rintro ⟨i, hi, h⟩
    have := (mem_members.mp hi).2
    rw [hbit] at this
    simp at this
    exact ⟨i, this.2, by rw [this.1, h]; rfl⟩
  · rintro ⟨i, hi, h⟩
    simp at h
    refine ⟨i, mem_members.mpr ⟨by omega, ?_⟩, h.2⟩
    rw [hbit, h.1, decide_eq_true hi]; rfl
end Go.Proofs.YtndpeoladndepaaDoor.RelationLeastRImg
