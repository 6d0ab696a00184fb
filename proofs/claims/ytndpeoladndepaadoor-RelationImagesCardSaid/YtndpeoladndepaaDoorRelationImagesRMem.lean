/- What the program and the reference list of a set: both its bits, rising. Condition: a 64-bit set. -/
import Derived.Test.YtndpeoladndepaaDoorRelationImagesRTz
import Derived.Test.YtndpeoladndepaaDoorRelationImagesRHas
import Derived.Test.YtndpeoladndepaaDoorPRelationImagesx3
namespace Go.Proofs.YtndpeoladndepaaDoor.RelationImagesRMem
set_option linter.all false
open Go Go.RowKit Go.Proofs.YtndpeoladndepaaDoor.PRelationImages Go.Proofs.YtndpeoladndepaaDoorW.PrintWords Go.Proofs.YtndpeoladndepaaDoorW.PrintLast Go.Proofs.YtndpeoladndepaaDoorW.PrintMore Go.Proofs.YtndpeoladndepaaDoor.Bit64 Go.Proofs.YtndpeoladndepaaDoor.Base Go.Proofs.YtndpeoladndepaaDoor.Warsh Go.Proofs.YtndpeoladndepaaDoor.Ctz Go.Proofs.YtndpeoladndepaaDoor.RelOps Go.Proofs.YtndpeoladndepaaDoor.RelationImagesRTz Go.Proofs.YtndpeoladndepaaDoor.RelationImagesRHas
def cast (l : List Nat) : List Int := l.map fun (j : Nat) => (j : Int)
theorem mem_loop : ∀ (m k : Nat) (s : Int) (o : List Int), U s → (members s).length = m → o.length + m ≤ 64 →
    relation_Members.l0 (m + 1 + k) o s = some (o ++ cast (members s)) := by
  intro m
  induction m with
  | zero =>
    intro k s o hs hm ho
    have e : s = 0 := by
      apply eq_zero hs
      intro j hj
      cases ht : tb s j with
      | false => rfl
      | true =>
        have : j ∈ members s := mem_members.mpr ⟨hj, ht⟩
        rw [List.eq_nil_of_length_eq_zero hm] at this
        cases this
    subst e
    rw [show 0 + 1 + k = k + 1 by omega]
    simp only [relation_Members.l0]
    rw [if_pos trivial, members_zero]; simp [cast]
  | succ m ih =>
    intro k s o hs hm ho
    have hne : s ≠ 0 := by
      intro e; subst e; rw [members_zero] at hm; cases hm
    obtain ⟨j, hj, h1, h2⟩ := lowest hs hne
    have hst := members_step hs hj h1 h2
    rw [show m + 1 + 1 + k = (m + 1 + k) + 1 by omega]
    simp only [relation_Members.l0]
    rw [if_neg hne, tz_low hs hne hj h1 h2, Option.bind_some, if_pos (by omega), ih k _ _ (U_and hs U_pred) (by rw [hst] at hm; simpa using hm) (by simp; omega), hst]
    simp [cast]
theorem mem_eq (s : Int) (hs : U s) (K : Nat) (hK : 66 ≤ K) : relation_Members.f K s = some (cast (members s)) := by
  unfold relation_Members.f
  have hl := members_len s
  obtain ⟨k, rfl⟩ : ∃ k, K = (members s).length + 1 + k := ⟨K - ((members s).length + 1), by omega⟩
  rw [mem_loop _ k s [] hs rfl (by simpa using hl), List.nil_append]
theorem rmem_loop (s : Int) (hs : U s) : ∀ (d j k : Nat) (o : List Int), j + d = 64 → o.length ≤ j →
    semigroupref02_Members.l0 (d + 1 + k) s o (j : Int) = some (o ++ cast ((List.range' j d).filter (tb s))) := by
  intro d
  induction d with
  | zero =>
    intro j k o h ho
    rw [show 0 + 1 + k = k + 1 by omega]
    simp only [semigroupref02_Members.l0]
    rw [if_neg (by omega)]; simp [cast]
  | succ d ih =>
    intro j k o h ho
    rw [show d + 1 + 1 + k = (d + 1 + k) + 1 by omega]
    simp only [semigroupref02_Members.l0]
    rw [if_pos (by omega), has_eq hs (by omega), Option.bind_some, wrap64_succ (by omega), List.range'_succ, List.filter_cons]
    by_cases hb : tb s j = true
    · rw [if_pos hb, if_pos hb, if_pos (by omega), ih (j + 1) k _ (by omega) (by simp; omega)]
      simp [cast]
    · rw [if_neg hb, if_neg hb, ih (j + 1) k _ (by omega) (by omega)]
theorem rmem_eq (s : Int) (hs : U s) (K : Nat) (hK : 66 ≤ K) : semigroupref02_Members.f K s = some (cast (members s)) := by
  unfold semigroupref02_Members.f
  obtain ⟨k, rfl⟩ : ∃ k, K = 64 + 1 + k := ⟨K - 65, by omega⟩
  have := rmem_loop s hs 64 0 k [] (by omega) (by simp)
  rw [show ((0 : Nat) : Int) = 0 from rfl] at this
  rw [this, List.nil_append]
  unfold members
  rw [List.range_eq_range']
theorem cast_len (l : List Nat) : (cast l).length = l.length := by simp [cast]
end Go.Proofs.YtndpeoladndepaaDoor.RelationImagesRMem
