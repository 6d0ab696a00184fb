/- The pure statement of RelationAssociates: the product of relations is associative, the identity is neutral, and the converse turns it around. Conditions: those of the given statement alone. -/
import Derived.Test.YtndpeoladndepaaDoorRelationAssociatesRComp
import Derived.Test.YtndpeoladndepaaDoorRelationAssociatesRTrans
import Derived.Test.YtndpeoladndepaaDoorRelationAssociatesRId
import Derived.Test.YtndpeoladndepaaDoorRelationAssociatesRPair
import Derived.Test.YtndpeoladndepaaDoorRelationAssociatesRVb
import Derived.Test.YtndpeoladndepaaDoorRelationAssociatesRAwake
import Derived.Test.YtndpeoladndepaaDoorPRelationAssociatesx3
namespace Go.Proofs.YtndpeoladndepaaDoor.Pure
set_option linter.all false
open Go Go.RowKit Go.Proofs.YtndpeoladndepaaDoor.PRelationAssociates Go.Proofs.YtndpeoladndepaaDoorW.PrintWords Go.Proofs.YtndpeoladndepaaDoorW.PrintLast Go.Proofs.YtndpeoladndepaaDoor.Bit64 Go.Proofs.YtndpeoladndepaaDoor.Base Go.Proofs.YtndpeoladndepaaDoor.Warsh Go.Proofs.YtndpeoladndepaaDoor.Ctz Go.Proofs.YtndpeoladndepaaDoor.RelOps Go.Proofs.YtndpeoladndepaaDoor.RelationAssociatesRValid Go.Proofs.YtndpeoladndepaaDoor.RelationAssociatesRComp Go.Proofs.YtndpeoladndepaaDoor.RelationAssociatesRTrans Go.Proofs.YtndpeoladndepaaDoor.RelationAssociatesRId Go.Proofs.YtndpeoladndepaaDoor.RelationAssociatesRPair Go.Proofs.YtndpeoladndepaaDoor.RelationAssociatesRVb Go.Proofs.YtndpeoladndepaaDoor.RelationAssociatesRSame Go.Proofs.YtndpeoladndepaaDoor.RelationAssociatesRClos Go.Proofs.YtndpeoladndepaaDoor.RelationAssociatesRAwake

section
variable {n : Nat} {a b c : List Int}
theorem comp_assoc (hn : n ≤ 64) : compC n (compC n a b) c = compC n a (compC n b c) := by
  show compC n (compC n a b) c = mkRel n _
  unfold compC
  apply mkRel_congr _ hn
  intro i j hi hj
  apply bool_eq
  rw [anyB_iff, anyB_iff]
  constructor
  · rintro ⟨k, hk, h⟩
    rw [mkRel_rel' hn _ hi hk, Bool.and_eq_true, anyB_iff] at h
    obtain ⟨⟨x, hx, h1⟩, h2⟩ := h
    rw [Bool.and_eq_true] at h1
    refine ⟨x, hx, ?_⟩
    rw [mkRel_rel' hn _ hx hj, h1.1, Bool.true_and, anyB_iff]
    exact ⟨k, hk, by rw [h1.2, h2]; rfl⟩
  · rintro ⟨x, hx, h⟩
    rw [mkRel_rel' hn _ hx hj, Bool.and_eq_true, anyB_iff] at h
    obtain ⟨h1, k, hk, h2⟩ := h
    rw [Bool.and_eq_true] at h2
    refine ⟨k, hk, ?_⟩
    rw [mkRel_rel' hn _ hi hk, h2.2, Bool.and_true, anyB_iff]
    exact ⟨x, hx, by rw [h1, h2.1]; rfl⟩
theorem id_comp (hn : n ≤ 64) (ra : IsRel n a) : compC n (idC n) a = a := by
  rw [← mkRel_self hn ra]
  unfold compC
  apply mkRel_congr _ hn
  intro i j hi hj
  apply bool_eq
  rw [anyB_iff, mkRel_self hn ra]
  constructor
  · rintro ⟨k, hk, h⟩
    unfold idC at h
    rw [mkRel_rel' hn _ hi hk, Bool.and_eq_true, decide_eq_true_eq] at h
    rw [h.1]; exact h.2
  · intro h
    refine ⟨i, hi, ?_⟩
    unfold idC
    rw [mkRel_rel' hn _ hi hi, h]; simp
theorem comp_id (hn : n ≤ 64) (ra : IsRel n a) : compC n a (idC n) = a := by
  rw [← mkRel_self hn ra]
  unfold compC
  apply mkRel_congr _ hn
  intro i j hi hj
  apply bool_eq
  rw [anyB_iff, mkRel_self hn ra]
  constructor
  · rintro ⟨k, hk, h⟩
    unfold idC at h
    rw [mkRel_rel' hn _ hk hj, Bool.and_eq_true, decide_eq_true_eq] at h
    rw [← h.2]; exact h.1
  · intro h
    refine ⟨j, hj, ?_⟩
    unfold idC
    rw [mkRel_rel' hn _ hj hj, h]; simp
theorem trans_comp (hn : n ≤ 64) : transC n (compC n a b) = compC n (transC n b) (transC n a) := by
  unfold transC compC
  apply mkRel_congr _ hn
  intro i j hi hj
  rw [mkRel_rel' hn _ hj hi]
  apply anyB_congr
  intro k hk
  rw [mkRel_rel' hn _ hi hk, mkRel_rel' hn _ hk hj, Bool.and_comm]
end
theorem comp_is {n : Nat} {a b : List Int} (hn : n ≤ 64) (ra : IsRel n a) (rb : IsRel n b) (K : Nat) (hK : 200 ≤ K) : relation_Compose.f K a b = some (compC n a b) := by
  have := compose_eq a b ra.u rb.u (vb_of ra hn) (vb_of rb hn) (by rw [ra.len, rb.len]) K hK
  rw [ra.len] at this; exact this
theorem trans_is {n : Nat} {a : List Int} (hn : n ≤ 64) (ra : IsRel n a) (K : Nat) (hK : 5000 ≤ K) : relation_Transpose.f K a = some (transC n a) := by
  have := transpose_eq a ra.u (vb_of ra hn) K hK
  rw [ra.len] at this; exact this
theorem RelationAssociates : semigrouplaw02_RelationAssociates.Pure := by
  intro a b c _ _ ha _ _ hb _ _ hc
  have ua := AllU.of_wf ha
  have ub := AllU.of_wf hb
  have uc := AllU.of_wf hc
  refine ⟨big + 1, ?_⟩
  have skip : semigrouplaw02_RelationAssociates.j0 (big + 1) a b c true = some true := by
    simp only [semigrouplaw02_RelationAssociates.j0]
    rw [if_pos trivial, awake_true big (Nat.le_refl _)]; rfl
  unfold semigrouplaw02_RelationAssociates.f
  rw [pair_eq a b ua ub (big + 1) (by decide), pair_eq b c ub uc (big + 1) (by decide)]
  cases hp : (decide (a.length = b.length) && (vb a && vb b)) with
  | false => simp [skip]
  | true =>
    cases hq : (decide (b.length = c.length) && (vb b && vb c)) with
    | false => simp [skip]
    | true =>
      simp only [Option.bind_some, if_true]
      by_cases h24 : (a.length : Int) > 24
      · rw [decide_eq_true h24, skip]
      · rw [decide_eq_false h24]
        simp only [Bool.and_eq_true, decide_eq_true_eq] at hp hq
        obtain ⟨hl, va, vb'⟩ := hp
        obtain ⟨hl2, _, vc⟩ := hq
        obtain ⟨n, hn'⟩ : ∃ n, n = a.length := ⟨_, rfl⟩
        have hn : n ≤ 64 := by omega
        have ra : IsRel n a := by rw [hn']; exact is_of ua va
        have rb : IsRel n b := by rw [hn', hl]; exact is_of ub vb'
        have rc : IsRel n c := by rw [hn', hl, hl2]; exact is_of uc vc
        have ri : IsRel n (idC n) := mkRel_is hn _
        have rm : ∀ x y, IsRel n (compC n x y) := fun x y => mkRel_is hn _
        have rt : ∀ x, IsRel n (transC n x) := fun x => mkRel_is hn _
        simp only [semigrouplaw02_RelationAssociates.j0]
        rw [if_neg (by decide), awake_true big (Nat.le_refl _), ← hn', ident_eq n hn big (by decide), comp_is hn ra rb big (by decide), Option.bind_some, comp_is hn (rm a b) rc big (by decide), Option.bind_some, comp_is hn rb rc big (by decide), Option.bind_some, comp_is hn ra (rm b c) big (by decide), Option.bind_some, Option.bind_some, Option.bind_some, trans_is hn (rm a b) big (by decide), Option.bind_some, (rm _ _).len, if_pos rfl, same_eq _ _ (by rw [(rm _ _).len]; exact hn) big (by decide), Option.bind_some, comp_assoc hn, if_pos (by simp), comp_is hn ri ra big (by decide), Option.bind_some, id_comp hn ra, same_eq _ _ (by rw [ra.len]; exact hn) big (by decide), Option.bind_some, if_pos (by simp), comp_is hn ra ri big (by decide), Option.bind_some, comp_id hn ra, same_eq _ _ (by rw [ra.len]; exact hn) big (by decide), Option.bind_some, if_pos (by simp), trans_is hn rb big (by decide), Option.bind_some, trans_is hn ra big (by decide), Option.bind_some, comp_is hn (rt b) (rt a) big (by decide), Option.bind_some, same_eq _ _ (by rw [(rt _).len]; exact hn) big (by decide), Option.bind_some, trans_comp hn, if_pos (by simp)]
        rfl
end Go.Proofs.YtndpeoladndepaaDoor.Pure
