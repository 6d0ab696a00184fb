/- What the reference's topological order computes: the least order, or that there is none. Condition: a relation on at most 64 points. -/
import Derived.Test.YtndpeoladndepaaDoorRelationSortsRHas
import Derived.Test.YtndpeoladndepaaDoorRelationSortsRBit
import Derived.Test.YtndpeoladndepaaDoorRelationSortsRTopo
import Derived.Test.YtndpeoladndepaaDoorPRelationSortsx4
namespace Go.Proofs.YtndpeoladndepaaDoor.RelationSortsRRefTopo
set_option linter.all false
open Go Go.RowKit Go.Proofs.YtndpeoladndepaaDoor.PRelationSorts Go.Proofs.YtndpeoladndepaaDoorW.PrintWords Go.Proofs.YtndpeoladndepaaDoorW.PrintLast Go.Proofs.YtndpeoladndepaaDoorW.PrintMore Go.Proofs.YtndpeoladndepaaDoor.Bit64 Go.Proofs.YtndpeoladndepaaDoor.Base Go.Proofs.YtndpeoladndepaaDoor.Warsh Go.Proofs.YtndpeoladndepaaDoor.Ctz Go.Proofs.YtndpeoladndepaaDoor.RelOps Go.Proofs.YtndpeoladndepaaDoor.RelationSortsRHas Go.Proofs.YtndpeoladndepaaDoor.RelationSortsRBit Go.Proofs.YtndpeoladndepaaDoor.RelationSortsRTopo Go.Proofs.YtndpeoladndepaaDoor.Topo Go.Proofs.YtndpeoladndepaaDoor.CompC
theorem rd_nat' (c : List Int) (i : Nat) : rd c (i : Int) = c.getD i 0 := by unfold rd; rw [Int.toNat_natCast]
/-- One look at one point by the reference: is it still free behind the points below j? -/
def frstep (r : List Int) (used : Int) (i j : Nat) (b : Bool) : Bool := b && (decide (j = i) || (tb used j || !rel r j i))
theorem rt_l2 (r : List Int) (n : Nat) (hn : n ≤ 64) (hr : IsRel n r) (used : Int) (hus : U used) (out : List Int) (found : Bool) (i : Nat) (hi : i < n) (ho : out.length ≤ 64) : ∀ (d j k : Nat) (b : Bool), j + d = n →
    semigroupref02_Topological.l2 (d + 1 + k) r out used found (i : Int) b (n : Int) (j : Int) =
      (if iter (frstep r used i) d j b = true then semigroupref02_Topological.l1 k r (out ++ [(i : Int)]) (Go.bits .or .u64 used (shl .u64 1 (i : Int))) true (((i + 1 : Nat)) : Int) else semigroupref02_Topological.l1 k r out used found (((i + 1 : Nat)) : Int)) := by
  have hl := hr.len
  intro d
  induction d with
  | zero =>
    intro j k b h
    rw [show 0 + 1 + k = k + 1 by omega]
    simp only [semigroupref02_Topological.l2]
    rw [if_neg (by omega), wrap64_succ (by omega)]
    cases b with
    | false => rfl
    | true => rw [if_pos rfl, if_pos (by omega), bit_eq (by omega), Option.bind_some]; rfl
  | succ d ih =>
    intro j k b h
    rw [show d + 1 + 1 + k = (d + 1 + k) + 1 by omega]
    simp only [semigroupref02_Topological.l2]
    rw [if_pos (by omega), iter_succ, wrap64_succ (by omega), has_eq hus (by omega), Option.bind_some]
    cases b with
    | false =>
      rw [if_neg (by decide), ih (j + 1) k _ (by omega)]
      rfl
    | true =>
      by_cases hji : j = i
      · subst hji
        rw [if_pos rfl, if_pos rfl, ih (j + 1) k _ (by omega)]
        have : frstep r used j j true = true := by unfold frstep; simp
        rw [this]
      · rw [if_pos rfl, if_neg (by omega)]
        by_cases hu : tb used j = true
        · rw [if_pos hu, ih (j + 1) k _ (by omega)]
          have : frstep r used i j true = true := by unfold frstep; rw [hu]; simp
          rw [this]
        · rw [if_neg hu, if_pos (by omega), if_pos (by omega), rd_nat', has_eq (hr.u.getD j) (by omega), Option.bind_some, ih (j + 1) k _ (by omega)]
          have : frstep r used i j true = !tb (r.getD j 0) i := by
            unfold frstep rel
            have : tb used j = false := by simpa using hu
            rw [this, decide_eq_false hji]; simp
          rw [this]

theorem fr_all (r : List Int) (n : Nat) (used : Int) (out : List Nat) (hb : ∀ j, tb used j = out.contains j) (i : Nat) (hi : i < n) : iter (frstep r used i) n 0 (!tb used i) = free n r out i := by
  have H := iter_inv (f := frstep r used i) (n := n)
    (fun m b => b = (!(out.contains i) && !(anyB m fun j => rel r j i && (!(out.contains j) && decide (j ≠ i)))))
    (fun m b hm hb' => by
      unfold frstep
      rw [hb', anyB_succ, hb m]
      by_cases e : m = i
      · subst e
        rw [decide_eq_true rfl]
        have : decide (m ≠ m) = false := decide_eq_false (fun h => h rfl)
        rw [this]
        simp
      · have : decide (m ≠ i) = true := decide_eq_true e
        rw [this, decide_eq_false e]
        cases out.contains i <;> cases anyB m (fun j => rel r j i && (!(out.contains j) && decide (j ≠ i))) <;> cases out.contains m <;> cases rel r m i <;> rfl)
    n 0 (!tb used i) (by omega) (by rw [hb i, anyB_zero]; simp)
  exact H

theorem found_on (r : List Int) (n : Nat) (hn : n ≤ 64) (hl : r.length = n) (out : List Int) (used : Int) (i k : Nat) (hi : i ≤ n) :
    semigroupref02_Topological.l1 (k + 2) r out used true (i : Int) = semigroupref02_Topological.l0 k r out used := by
  rw [show k + 2 = (k + 1) + 1 by omega]
  simp only [semigroupref02_Topological.l1]
  by_cases h : (i : Int) < (r.length : Int)
  · rw [if_pos h]
    simp only [semigroupref02_Topological.j2]
    rw [if_neg (by decide), if_pos trivial]
  · rw [if_neg h]
    simp only [semigroupref02_Topological.j2]
    rw [if_neg (by decide), if_pos trivial]
theorem rt_l1 (r : List Int) (n : Nat) (hn : n ≤ 64) (hr : IsRel n r) (used : Int) (hus : U used) (out : List Nat) (hb : ∀ j, tb used j = out.contains j) (ho : out.length ≤ 64) : ∀ (d i k : Nat), i + d = n →
    semigroupref02_Topological.l1 (d * (n + 3) + 4 + k) r (castL out) used false (i : Int) = match (List.range' i d).find? (free n r out) with
      | none => some ([], false)
      | some j => semigroupref02_Topological.l0 ((d - (j - i) - 1) * (n + 3) + 2 + k) r (castL (out ++ [j])) (Go.bits .or .u64 used (shl .u64 1 (j : Int))) := by
  have hl := hr.len
  intro d
  induction d with
  | zero =>
    intro i k h
    rw [show 0 * (n + 3) + 4 + k = (k + 2 + 1) + 1 by omega]
    simp only [semigroupref02_Topological.l1]
    rw [if_neg (by omega)]
    simp only [semigroupref02_Topological.j2]
    rw [if_neg (by decide), if_neg (by decide)]; rfl
  | succ d ih =>
    intro i k h
    have hi : i < n := by omega
    rw [show (d + 1) * (n + 3) + 4 + k = (n + 1 + (d * (n + 3) + 4 + k)) + 1 + 1 by rw [Nat.add_mul]; omega]
    simp only [semigroupref02_Topological.l1]
    rw [if_pos (by omega)]
    simp only [semigroupref02_Topological.j2]
    rw [if_pos (by decide), has_eq hus (by omega), Option.bind_some, hl]
    have h2 := rt_l2 r n hn hr used hus (castL out) false i hi (by simp [castL]; exact ho) n 0 (d * (n + 3) + 4 + k) (!tb used i) (by omega)
    rw [show ((0 : Nat) : Int) = 0 from rfl] at h2
    rw [h2, fr_all r n used out hb i hi, List.range'_succ, List.find?_cons]
    cases hf : free n r out i with
    | true =>
      rw [if_pos rfl]
      have hc : castL out ++ [(i : Int)] = castL (out ++ [i]) := by simp [castL]
      rw [hc, show d * (n + 3) + 4 + k = (d * (n + 3) + 2 + k) + 2 by omega, found_on r n hn hl _ _ (i + 1) _ (by omega)]
      simp
    | false =>
      rw [if_neg (by decide), ih (i + 1) k (by omega)]
      simp only
      split
      · rfl
      · rename_i j hj
        have := List.mem_range'.mp (List.mem_of_find?_eq_some hj)
        obtain ⟨x, _, hx⟩ := this
        rw [show d - (j - (i + 1)) - 1 = d + 1 - (j - i) - 1 by omega]
theorem rt_l0 (r : List Int) (n : Nat) (hn : n ≤ 64) (hr : IsRel n r) : ∀ (d K : Nat) (used : Int) (out : List Nat), U used → (∀ j, tb used j = out.contains j) → cntF (lft out) n = d → out.length + d = n → d * (n * (n + 3) + 10) + 1 ≤ K →
    semigroupref02_Topological.l0 K r (castL out) used = some (tell (topoS n r d out)) := by
  have hl := hr.len
  intro d
  induction d with
  | zero =>
    intro K used out hus hb hd ho hK
    obtain ⟨k, rfl⟩ : ∃ k, K = k + 1 := ⟨K - 1, by omega⟩
    simp only [semigroupref02_Topological.l0]
    have : ¬ ((castL out).length : Int) < (r.length : Int) := by simp [castL]; omega
    rw [if_neg this]; rfl
  | succ d ih =>
    intro K used out hus hb hd ho hK
    rw [Nat.add_mul, Nat.one_mul] at hK
    obtain ⟨k, rfl⟩ : ∃ k, K = (n * (n + 3) + 4 + k) + 1 := ⟨K - (n * (n + 3) + 5), by omega⟩
    simp only [semigroupref02_Topological.l0]
    have : ((castL out).length : Int) < (r.length : Int) := by simp [castL]; omega
    rw [if_pos this]
    have h1 := rt_l1 r n hn hr used hus out hb (by omega) n 0 k (by omega)
    rw [show ((0 : Nat) : Int) = 0 from rfl] at h1
    rw [h1]
    unfold topoS
    rw [List.range_eq_range']
    split
    · rename_i he
      rw [he]; rfl
    · rename_i j he
      rw [he]
      have hj : j < n := by
        have := List.mem_range'.mp (List.mem_of_find?_eq_some he)
        obtain ⟨x, hx, rfl⟩ := this; omega
      have hlj := free_lft (List.find?_some he)
      have us : U (shl .u64 1 (j : Int)) := U_shl (by omega) (by omega)
      refine ih _ _ (out ++ [j]) (U_or hus us) ?_ (by have := cntF_step hj hlj; omega) (by simp; omega) (by omega)
      intro x
      rw [tb_or hus us, hb x, tb_shl (by omega) (by omega), Int.toNat_natCast]
      apply bool_eq
      simp
theorem rtopo_eq (r : List Int) (n : Nat) (hn : n ≤ 64) (hr : IsRel n r) (K : Nat) (hK : 300000 ≤ K) : semigroupref02_Topological.f K r = some (tell (topoS n r n [])) := by
  unfold semigroupref02_Topological.f
  have h1 : n * (n + 3) ≤ 64 * 67 := Nat.mul_le_mul hn (by omega)
  have h2 : n * (n * (n + 3) + 10) ≤ 64 * 4298 := Nat.mul_le_mul hn (by omega)
  exact rt_l0 r n hn hr n K 0 [] U_zero (fun j => by rw [tb_zero]; rfl) (cntF_nil n) (by simp) (by omega)
theorem tell_len (n : Nat) (r : List Int) : ∀ (d : Nat) (out : List Nat), out.length + d ≤ 64 → (tell (topoS n r d out)).1.length ≤ 64 := by
  intro d
  induction d with
  | zero => intro out h; simp [topoS, tell, castL]; omega
  | succ d ih =>
    intro out h
    unfold topoS
    split
    · simp [tell, castL]
    · exact ih _ (by simp; omega)
end Go.Proofs.YtndpeoladndepaaDoor.RelationSortsRRefTopo
