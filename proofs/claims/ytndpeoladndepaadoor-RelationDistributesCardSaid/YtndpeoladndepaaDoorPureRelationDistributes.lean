/- The pure statement of RelationDistributes: products distribute over unions, and the converse keeps intersections. Conditions: those of the given statement alone. -/
import Derived.Test.YtndpeoladndepaaDoorRelationDistributesRComp
import Derived.Test.YtndpeoladndepaaDoorRelationDistributesRTrans
import Derived.Test.YtndpeoladndepaaDoorRelationDistributesRUnion
import Derived.Test.YtndpeoladndepaaDoorRelationDistributesRMeet
import Derived.Test.YtndpeoladndepaaDoorRelationDistributesRPair
import Derived.Test.YtndpeoladndepaaDoorRelationDistributesRVb
import Derived.Test.YtndpeoladndepaaDoorRelationDistributesRAwake
import Derived.Test.YtndpeoladndepaaDoorPRelationDistributesx4
namespace Go.Proofs.YtndpeoladndepaaDoor.Pure
set_option linter.all false
open Go Go.RowKit Go.Proofs.YtndpeoladndepaaDoor.PRelationDistributes Go.Proofs.YtndpeoladndepaaDoorW.PrintWords Go.Proofs.YtndpeoladndepaaDoorW.PrintLast Go.Proofs.YtndpeoladndepaaDoor.Bit64 Go.Proofs.YtndpeoladndepaaDoor.Base Go.Proofs.YtndpeoladndepaaDoor.Warsh Go.Proofs.YtndpeoladndepaaDoor.Ctz Go.Proofs.YtndpeoladndepaaDoor.RelOps Go.Proofs.YtndpeoladndepaaDoor.RelationDistributesRValid Go.Proofs.YtndpeoladndepaaDoor.RelationDistributesRComp Go.Proofs.YtndpeoladndepaaDoor.RelationDistributesRTrans Go.Proofs.YtndpeoladndepaaDoor.RelationDistributesRUnion Go.Proofs.YtndpeoladndepaaDoor.RelationDistributesRMeet Go.Proofs.YtndpeoladndepaaDoor.RelationDistributesRPair Go.Proofs.YtndpeoladndepaaDoor.RelationDistributesRVb Go.Proofs.YtndpeoladndepaaDoor.RelationDistributesRSame Go.Proofs.YtndpeoladndepaaDoor.RelationDistributesRClos Go.Proofs.YtndpeoladndepaaDoor.RelationDistributesRAwake

section
variable {n : Nat} {a b c : List Int}
theorem comp_union (hn : n ≤ 64) : compC n a (unionC n b c) = unionC n (compC n a b) (compC n a c) := by
  unfold unionC compC
  apply mkRel_congr _ hn
  intro i j hi hj
  rw [mkRel_rel' hn _ hi hj, mkRel_rel' hn _ hi hj]
  apply bool_eq
  rw [Bool.or_eq_true, anyB_iff, anyB_iff, anyB_iff]
  constructor
  · rintro ⟨k, hk, h⟩
    rw [mkRel_rel' hn _ hk hj, Bool.and_eq_true, Bool.or_eq_true] at h
    rcases h.2 with h2 | h2
    · exact .inl ⟨k, hk, by rw [h.1, h2]; rfl⟩
    · exact .inr ⟨k, hk, by rw [h.1, h2]; rfl⟩
  · rintro (⟨k, hk, h⟩ | ⟨k, hk, h⟩)
    · rw [Bool.and_eq_true] at h
      exact ⟨k, hk, by rw [mkRel_rel' hn _ hk hj, h.1, h.2]; rfl⟩
    · rw [Bool.and_eq_true] at h
      exact ⟨k, hk, by rw [mkRel_rel' hn _ hk hj, h.1, h.2]; simp⟩
theorem trans_meet (hn : n ≤ 64) : transC n (meetC n a b) = meetC n (transC n a) (transC n b) := by
  unfold transC meetC
  apply mkRel_congr _ hn
  intro i j hi hj
  rw [mkRel_rel' hn _ hj hi, mkRel_rel' hn _ hi hj, mkRel_rel' hn _ hi hj]
end
theorem comp_is {n : Nat} {a b : List Int} (hn : n ≤ 64) (ra : IsRel n a) (rb : IsRel n b) (K : Nat) (hK : 200 ≤ K) : relation_Compose.f K a b = some (compC n a b) := by
  have := compose_eq a b ra.u rb.u (vb_of ra hn) (vb_of rb hn) (by rw [ra.len, rb.len]) K hK
  rw [ra.len] at this; exact this
theorem union_is {n : Nat} {a b : List Int} (hn : n ≤ 64) (ra : IsRel n a) (rb : IsRel n b) (K : Nat) (hK : 200 ≤ K) : relation_Union.f K a b = some (unionC n a b) := by
  have := union_eq a b ra.u rb.u (vb_of ra hn) (vb_of rb hn) (by rw [ra.len, rb.len]) K hK
  rw [ra.len] at this; exact this
theorem meet_is {n : Nat} {a b : List Int} (hn : n ≤ 64) (ra : IsRel n a) (rb : IsRel n b) (K : Nat) (hK : 200 ≤ K) : relation_Meet.f K a b = some (meetC n a b) := by
  have := meet_eq a b ra.u rb.u (vb_of ra hn) (vb_of rb hn) (by rw [ra.len, rb.len]) K hK
  rw [ra.len] at this; exact this
theorem trans_is {n : Nat} {a : List Int} (hn : n ≤ 64) (ra : IsRel n a) (K : Nat) (hK : 5000 ≤ K) : relation_Transpose.f K a = some (transC n a) := by
  have := transpose_eq a ra.u (vb_of ra hn) K hK
  rw [ra.len] at this; exact this
theorem RelationDistributes : semigrouplaw02_RelationDistributes.Pure := by
  intro a b c _ _ ha _ _ hb _ _ hc
  have ua := AllU.of_wf ha
  have ub := AllU.of_wf hb
  have uc := AllU.of_wf hc
  refine ⟨big + 1, ?_⟩
  have skip : semigrouplaw02_RelationDistributes.j0 (big + 1) a b c true = some true := by
    simp only [semigrouplaw02_RelationDistributes.j0]
    rw [if_pos trivial, awake_true big (Nat.le_refl _)]; rfl
  unfold semigrouplaw02_RelationDistributes.f
  rw [pair_eq a b ua ub (big + 1) (by decide), pair_eq b c ub uc (big + 1) (by decide)]
  cases hp : (decide (a.length = b.length) && (vb a && vb b)) with
  | false => simp [skip]
  | true =>
    cases hq : (decide (b.length = c.length) && (vb b && vb c)) with
    | false => simp [skip]
    | true =>
      simp only [Option.bind_some, if_true]
      by_cases h24 : (a.length : Int) > 24
      · rw [decide_eq_true h24, skip]
      · rw [decide_eq_false h24]
        simp only [Bool.and_eq_true, decide_eq_true_eq] at hp hq
        obtain ⟨hl, va, vb'⟩ := hp
        obtain ⟨hl2, _, vc⟩ := hq
        obtain ⟨n, hn'⟩ : ∃ n, n = a.length := ⟨_, rfl⟩
        have hn : n ≤ 64 := by omega
        have ra : IsRel n a := by rw [hn']; exact is_of ua va
        have rb : IsRel n b := by rw [hn', hl]; exact is_of ub vb'
        have rc : IsRel n c := by rw [hn', hl, hl2]; exact is_of uc vc
        have rm : ∀ x y, IsRel n (compC n x y) := fun x y => mkRel_is hn _
        have ru : ∀ x y, IsRel n (unionC n x y) := fun x y => mkRel_is hn _
        have rk : ∀ x y, IsRel n (meetC n x y) := fun x y => mkRel_is hn _
        have rt : ∀ x, IsRel n (transC n x) := fun x => mkRel_is hn _
        simp only [semigrouplaw02_RelationDistributes.j0]
        rw [if_neg (by decide), awake_true big (Nat.le_refl _), ← hn', union_is hn rb rc big (by decide), Option.bind_some, comp_is hn ra (ru b c) big (by decide), Option.bind_some, comp_is hn ra rb big (by decide), Option.bind_some, comp_is hn ra rc big (by decide), Option.bind_some, union_is hn (rm a b) (rm a c) big (by decide), Option.bind_some, meet_is hn ra rb big (by decide), Option.bind_some, trans_is hn (rk a b) big (by decide), Option.bind_some, (rm _ _).len, if_pos rfl, same_eq _ _ (by rw [(rm _ _).len]; exact hn) big (by decide), Option.bind_some, comp_union hn, if_pos (by simp), trans_is hn ra big (by decide), Option.bind_some, trans_is hn rb big (by decide), Option.bind_some, meet_is hn (rt a) (rt b) big (by decide), Option.bind_some, same_eq _ _ (by rw [(rt _).len]; exact hn) big (by decide), Option.bind_some, trans_meet hn, if_pos (by simp)]
        rfl
end Go.Proofs.YtndpeoladndepaaDoor.Pure
