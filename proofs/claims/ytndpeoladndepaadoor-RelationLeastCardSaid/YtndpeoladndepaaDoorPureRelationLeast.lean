/- The pure statement of RelationLeast: the closure contains the relation and the identity, is its own square, and lies within every such relation. Conditions: those of the given statement alone. -/
import Derived.Test.YtndpeoladndepaaDoorRelationLeastRComp
import Derived.Test.YtndpeoladndepaaDoorRelationLeastRUnion
import Derived.Test.YtndpeoladndepaaDoorRelationLeastRId
import Derived.Test.YtndpeoladndepaaDoorRelationLeastRPair
import Derived.Test.YtndpeoladndepaaDoorRelationLeastRVb
import Derived.Test.YtndpeoladndepaaDoorRelationLeastRAwake
import Derived.Test.YtndpeoladndepaaDoorPRelationLeastx4
namespace Go.Proofs.YtndpeoladndepaaDoor.Pure
set_option linter.all false
open Go Go.RowKit Go.Proofs.YtndpeoladndepaaDoor.PRelationLeast Go.Proofs.YtndpeoladndepaaDoorW.PrintWords Go.Proofs.YtndpeoladndepaaDoorW.PrintLast Go.Proofs.YtndpeoladndepaaDoor.Bit64 Go.Proofs.YtndpeoladndepaaDoor.Base Go.Proofs.YtndpeoladndepaaDoor.Warsh Go.Proofs.YtndpeoladndepaaDoor.Ctz Go.Proofs.YtndpeoladndepaaDoor.RelOps Go.Proofs.YtndpeoladndepaaDoor.RelationLeastRValid Go.Proofs.YtndpeoladndepaaDoor.RelationLeastRComp Go.Proofs.YtndpeoladndepaaDoor.RelationLeastRUnion Go.Proofs.YtndpeoladndepaaDoor.RelationLeastRId Go.Proofs.YtndpeoladndepaaDoor.RelationLeastRPair Go.Proofs.YtndpeoladndepaaDoor.RelationLeastRVb Go.Proofs.YtndpeoladndepaaDoor.RelationLeastRSame Go.Proofs.YtndpeoladndepaaDoor.RelationLeastRClos Go.Proofs.YtndpeoladndepaaDoor.RelationLeastRAwake

section
variable {n : Nat} {a b c : List Int}
theorem square (hn : n ≤ 64) (rc : IsRel n c) (hr : ∀ i, i < n → rel c i i = true) (ht : ∀ i k j, rel c i k = true → rel c k j = true → rel c i j = true) : compC n c c = c := by
  rw [← mkRel_self hn rc]
  unfold compC
  apply mkRel_congr _ hn
  intro i j hi hj
  apply bool_eq
  rw [anyB_iff, mkRel_self hn rc]
  constructor
  · rintro ⟨k, hk, h⟩
    rw [Bool.and_eq_true] at h
    exact ht i k j h.1 h.2
  · intro h
    exact ⟨i, hi, by rw [hr i hi, h]; rfl⟩
theorem absorb (hn : n ≤ 64) (rc : IsRel n c) (h : ∀ i j, i < n → j < n → rel a i j = true → rel c i j = true) : unionC n c a = c := by
  rw [← mkRel_self hn rc]
  unfold unionC
  apply mkRel_congr _ hn
  intro i j hi hj
  rw [mkRel_self hn rc]
  cases ha : rel a i j with
  | false => simp
  | true => rw [h i j hi hj ha]; rfl
theorem absorb' (hn : n ≤ 64) (rc : IsRel n c) (h : ∀ i j, i < n → j < n → rel a i j = true → rel c i j = true) : unionC n a c = c := by
  rw [← mkRel_self hn rc]
  unfold unionC
  apply mkRel_congr _ hn
  intro i j hi hj
  rw [mkRel_self hn rc]
  cases ha : rel a i j with
  | false => simp
  | true => rw [h i j hi hj ha]; rfl
end
theorem comp_is {n : Nat} {a b : List Int} (hn : n ≤ 64) (ra : IsRel n a) (rb : IsRel n b) (K : Nat) (hK : 200 ≤ K) : relation_Compose.f K a b = some (compC n a b) := by
  have := compose_eq a b ra.u rb.u (vb_of ra hn) (vb_of rb hn) (by rw [ra.len, rb.len]) K hK
  rw [ra.len] at this; exact this
theorem union_is {n : Nat} {a b : List Int} (hn : n ≤ 64) (ra : IsRel n a) (rb : IsRel n b) (K : Nat) (hK : 200 ≤ K) : relation_Union.f K a b = some (unionC n a b) := by
  have := union_eq a b ra.u rb.u (vb_of ra hn) (vb_of rb hn) (by rw [ra.len, rb.len]) K hK
  rw [ra.len] at this; exact this
theorem clos_is {n : Nat} {a : List Int} (hn : n ≤ 64) (ra : IsRel n a) (K : Nat) (hK : big ≤ K) : relation_Closure.f K a = some (closC a) := clos_eq a ra.u (vb_of ra hn) K hK
theorem clos_of {n : Nat} {a : List Int} (hn : n ≤ 64) (ra : IsRel n a) : Clos a (closC a) := by
  have hl := ra.len
  subst hl
  exact clos_spec ra hn
theorem RelationLeast : semigrouplaw02_RelationLeast.Pure := by
  intro a b _ _ ha _ _ hb
  have ua := AllU.of_wf ha
  have ub := AllU.of_wf hb
  refine ⟨big + 2, ?_⟩
  have skip : semigrouplaw02_RelationLeast.j0 (big + 2) a b true = some true := by
    rw [show big + 2 = (big + 1) + 1 from rfl]
    simp only [semigrouplaw02_RelationLeast.j0]
    rw [if_pos trivial, awake_true (big + 1) (Nat.le_succ _)]; rfl
  unfold semigrouplaw02_RelationLeast.f
  rw [rvalid_eq a ua (big + 2) (by decide)]
  cases va : vb a with
  | false => simp [skip]
  | true =>
    simp only [Option.bind_some, if_true]
    by_cases h24 : (a.length : Int) > 24
    · rw [decide_eq_true h24, skip]
    · rw [decide_eq_false h24]
      obtain ⟨n, hn'⟩ : ∃ n, n = a.length := ⟨_, rfl⟩
      have hn : n ≤ 64 := by omega
      have ra : IsRel n a := by rw [hn']; exact is_of ua va
      have hc := clos_of hn ra
      have rc : IsRel n (closC a) := by have := hc.isrel; rw [ra.len] at this; exact this
      have ri : IsRel n (idC n) := mkRel_is hn _
      have hrefl : ∀ i, i < n → rel (closC a) i i = true := fun i hi => hc.refl i (by rw [ra.len]; exact hi)
      have hid : ∀ i j, i < n → j < n → rel (idC n) i j = true → rel (closC a) i j = true := fun i j hi hj h => by
        unfold idC at h
        rw [mkRel_rel' hn _ hi hj, decide_eq_true_eq] at h
        rw [← h]; exact hrefl i hi
      rw [show big + 2 = (big + 1) + 1 from rfl]
      simp only [semigrouplaw02_RelationLeast.j0]
      rw [if_neg (by decide), ← hn', clos_is hn ra (big + 1) (Nat.le_succ _), Option.bind_some, rc.len, if_pos rfl, comp_is hn rc rc (big + 1) (by decide), Option.bind_some, square hn rc hrefl hc.trans, same_eq _ _ (by rw [rc.len]; exact hn) (big + 1) (by decide), Option.bind_some, if_pos (by simp), union_is hn rc ra (big + 1) (by decide), Option.bind_some, absorb hn rc (fun i j _ _ h => hc.sub i j h), same_eq _ _ (by rw [rc.len]; exact hn) (big + 1) (by decide), Option.bind_some, if_pos (by simp), ident_eq n hn (big + 1) (by decide), Option.bind_some, union_is hn rc ri (big + 1) (by decide), Option.bind_some, absorb hn rc hid, same_eq _ _ (by rw [rc.len]; exact hn) (big + 1) (by decide), Option.bind_some]
      simp only [semigrouplaw02_RelationLeast.j1]
      rw [if_neg (by simp), pair_eq a b ua ub big (by decide), Option.bind_some]
      cases hp : (decide (a.length = b.length) && (vb a && vb b)) with
      | false => rw [if_neg (by decide), awake_true big (Nat.le_refl _)]; rfl
      | true =>
        simp only [Bool.and_eq_true, decide_eq_true_eq] at hp
        obtain ⟨hl, _, vb'⟩ := hp
        have rb : IsRel n b := by rw [hn', hl]; exact is_of ub vb'
        have ru : IsRel n (unionC n a b) := mkRel_is hn _
        have hd := clos_of hn ru
        have rd : IsRel n (closC (unionC n a b)) := by have := hd.isrel; rw [ru.len] at this; exact this
        have hub : ∀ i j, rel b i j = true → rel (unionC n a b) i j = true := fun i j h => by
          have := rb.lt h
          unfold unionC
          rw [mkRel_rel' hn _ this.1 this.2, h]; simp
        have hua : ∀ i j, rel a i j = true → rel (unionC n a b) i j = true := fun i j h => by
          have := ra.lt h
          unfold unionC
          rw [mkRel_rel' hn _ this.1 this.2, h]; rfl
        have hsub : ∀ i j, rel (closC a) i j = true → rel (closC (unionC n a b)) i j = true := fun i j h =>
          hc.least (fun i j => rel (closC (unionC n a b)) i j = true) (fun i hi => hd.refl i (by rw [ru.len, hn']; exact hi)) (fun i j h => hd.sub i j (hua i j h)) (fun i k j h1 h2 => hd.trans i k j h1 h2) i j h
        have ru2 : IsRel n (unionC n (closC a) b) := mkRel_is hn _
        have he := clos_of hn ru2
        have re : IsRel n (closC (unionC n (closC a) b)) := by have := he.isrel; rw [ru2.len] at this; exact this
        have heq : closC (unionC n (closC a) b) = closC (unionC n a b) := by
          apply re.ext rd hn
          intro i j hi hj
          apply bool_eq
          constructor
          · intro h
            refine he.least (fun i j => rel (closC (unionC n a b)) i j = true) (fun i hi => hd.refl i (by rw [ru.len]; rw [ru2.len] at hi; exact hi)) (fun i j h => ?_) (fun i k j h1 h2 => hd.trans i k j h1 h2) i j h
            have hlt := ru2.lt h
            unfold unionC at h
            rw [mkRel_rel' hn _ hlt.1 hlt.2, Bool.or_eq_true] at h
            rcases h with h | h
            · exact hsub i j h
            · exact hd.sub i j (hub i j h)
          · intro h
            refine hd.least (fun i j => rel (closC (unionC n (closC a) b)) i j = true) (fun i hi => he.refl i (by rw [ru2.len]; rw [ru.len] at hi; exact hi)) (fun i j h => ?_) (fun i k j h1 h2 => he.trans i k j h1 h2) i j h
            have hlt := ru.lt h
            unfold unionC at h
            rw [mkRel_rel' hn _ hlt.1 hlt.2, Bool.or_eq_true] at h
            apply he.sub
            unfold unionC
            rw [mkRel_rel' hn _ hlt.1 hlt.2, Bool.or_eq_true]
            rcases h with h | h
            · exact .inl (hc.sub i j h)
            · exact .inr h
        rw [if_pos rfl, union_is hn ra rb big (by decide), Option.bind_some, clos_is hn ru big (Nat.le_refl _), Option.bind_some, rd.len, ← hn', if_pos rfl, union_is hn rc rd big (by decide), Option.bind_some, absorb' hn rd (fun i j _ _ h => hsub i j h), same_eq _ _ (by rw [rd.len]; exact hn) big (by decide), Option.bind_some, if_pos (by simp), union_is hn rc rb big (by decide), Option.bind_some, clos_is hn ru2 big (Nat.le_refl _), Option.bind_some, heq, same_eq _ _ (by rw [rd.len]; exact hn) big (by decide), Option.bind_some, if_pos (by simp), awake_true big (Nat.le_refl _)]
        rfl
end Go.Proofs.YtndpeoladndepaaDoor.Pure
