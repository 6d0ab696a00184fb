/- What the reference's converse computes: the converse. Condition: a relation on at most 64 points. -/
import Derived.Test.YtndpeoladndepaaDoorRelationCombinesRHas
import Derived.Test.YtndpeoladndepaaDoorRelationCombinesRBit
import Derived.Test.YtndpeoladndepaaDoorPRelationCombinesx5
namespace Go.Proofs.YtndpeoladndepaaDoor.RelationCombinesRRefTrans
set_option linter.all false
open Go Go.RowKit Go.Proofs.YtndpeoladndepaaDoor.PRelationCombines Go.Proofs.YtndpeoladndepaaDoorW.PrintWords Go.Proofs.YtndpeoladndepaaDoorW.PrintLast Go.Proofs.YtndpeoladndepaaDoorW.PrintMore Go.Proofs.YtndpeoladndepaaDoor.Bit64 Go.Proofs.YtndpeoladndepaaDoor.Base Go.Proofs.YtndpeoladndepaaDoor.Warsh Go.Proofs.YtndpeoladndepaaDoor.Ctz Go.Proofs.YtndpeoladndepaaDoor.RelOps Go.Proofs.YtndpeoladndepaaDoor.RelationCombinesRHas Go.Proofs.YtndpeoladndepaaDoor.RelationCombinesRBit
theorem rd_nat (c : List Int) (i : Nat) : rd c (i : Int) = c.getD i 0 := by unfold rd; rw [Int.toNat_natCast]
def tj (r : List Int) (i j : Nat) (c : List Int) : List Int := if rel r j i = true then addB i j c else c
theorem tj_len (r : List Int) (i j : Nat) (c : List Int) : (tj r i j c).length = c.length := by
  unfold tj; split
  · exact addB_len i j c
  · rfl
theorem iter_len {f : Nat → List Int → List Int} (h : ∀ i c, (f i c).length = c.length) : ∀ (d i : Nat) (c : List Int), (iter f d i c).length = c.length := by
  intro d
  induction d with
  | zero => intro i c; rfl
  | succ d ih => intro i c; rw [iter_succ, ih, h]
def ti (r : List Int) (n i : Nat) (c : List Int) : List Int := iter (tj r i) n 0 c
theorem rt_l1 (r : List Int) (n i : Nat) (hn : n ≤ 64) (hi : i < n) (hr : IsRel n r) : ∀ (d j k : Nat) (c : List Int), j + d = n → c.length = n →
    semigroupref02_Transpose.l1 (d + 1 + k) r c (i : Int) (n : Int) (i : Int) (n : Int) (j : Int) = semigroupref02_Transpose.l0 k r (iter (tj r i) d j c) (n : Int) (((i + 1 : Nat)) : Int) := by
  have hl := hr.len
  intro d
  induction d with
  | zero =>
    intro j k c h hc
    rw [show 0 + 1 + k = k + 1 by omega]
    simp only [semigroupref02_Transpose.l1]
    rw [if_neg (by omega), wrap64_succ (by omega)]; rfl
  | succ d ih =>
    intro j k c h hc
    rw [show d + 1 + 1 + k = (d + 1 + k) + 1 by omega]
    simp only [semigroupref02_Transpose.l1]
    rw [if_pos (by omega), if_pos (by omega), if_pos (by omega), rd_nat, has_eq (hr.u.getD j) (by omega), Option.bind_some, iter_succ, wrap64_succ (by omega), rd_nat, Int.toNat_natCast]
    by_cases h1 : tb (r.getD j 0) i = true
    · rw [if_pos h1, if_pos (by omega), if_pos (by omega), bit_eq (by omega), Option.bind_some, ih (j + 1) k _ (by omega) (by simp; exact hc)]
      unfold tj rel addB; rw [if_pos h1]
    · rw [if_neg h1, ih (j + 1) k _ (by omega) hc]
      unfold tj rel; rw [if_neg h1]
theorem rt_l0 (r : List Int) (n : Nat) (hn : n ≤ 64) (hr : IsRel n r) : ∀ (e i k : Nat) (c : List Int), i + e = n → c.length = n →
    semigroupref02_Transpose.l0 (e * (n + 2) + 1 + k) r c (n : Int) (i : Int) = some (iter (ti r n) e i c) := by
  have hl := hr.len
  intro e
  induction e with
  | zero =>
    intro i k c h hc
    rw [show 0 * (n + 2) + 1 + k = k + 1 by omega]
    simp only [semigroupref02_Transpose.l0]
    rw [if_neg (by omega)]; rfl
  | succ e ih =>
    intro i k c h hc
    have hi : i < n := by omega
    rw [show (e + 1) * (n + 2) + 1 + k = (n + 1 + (e * (n + 2) + 1 + k)) + 1 by rw [Nat.add_mul]; omega]
    simp only [semigroupref02_Transpose.l0]
    rw [if_pos (by omega), hl]
    have := rt_l1 r n i hn hi hr n 0 (e * (n + 2) + 1 + k) c (by omega) hc
    rw [show ((0 : Nat) : Int) = 0 from rfl] at this
    rw [this, iter_succ]
    exact ih (i + 1) k _ (by omega) (by rw [iter_len (tj_len r i), hc])
theorem ti_spec (r : List Int) (n i : Nat) (hn : n ≤ 64) (hi : i < n) (hr : IsRel n r) (c : List Int) (hc : c.length = n) (hu : AllU c) :
    (ti r n i c).length = n ∧ AllU (ti r n i c) ∧ ∀ x y, rel (ti r n i c) x y = (rel c x y || (decide (x = i) && rel r y i)) := by
  have H := iter_inv (f := tj r i) (n := n)
    (fun m e => e.length = n ∧ AllU e ∧ ∀ x y, rel e x y = (rel c x y || (decide (x = i) && (decide (y < m) && rel r y i))))
    (fun m e hm ⟨h1, h2, h3⟩ => by
      refine ⟨by rw [tj_len, h1], ?_, fun x y => ?_⟩
      · unfold tj; split
        · exact addB_u h2 i (by omega)
        · exact h2
      · have hd : y ≠ m → decide (y < m + 1) = decide (y < m) := fun hne => by
          by_cases hy : y < m
          · rw [decide_eq_true hy, decide_eq_true (show y < m + 1 by omega)]
          · rw [decide_eq_false hy, decide_eq_false (show ¬ y < m + 1 by omega)]
        unfold tj
        by_cases q : rel r m i = true
        · rw [if_pos q, addB_rel h2 (by omega) (by omega), h3 x y]
          by_cases ey : y = m
          · subst ey
            rw [q, decide_eq_true (Nat.lt_succ_self y), decide_eq_true (show y = y from rfl), decide_eq_false (Nat.lt_irrefl y)]; simp
          · rw [hd ey, decide_eq_false ey]; simp
        · rw [if_neg q, h3 x y]
          by_cases ey : y = m
          · subst ey
            have : rel r y i = false := by simpa using q
            rw [this]; simp
          · rw [hd ey])
    n 0 c (by omega) ⟨hc, hu, fun x y => by simp⟩
  refine ⟨H.1, H.2.1, fun x y => ?_⟩
  rw [show rel (ti r n i c) x y = _ from H.2.2 x y]
  by_cases hy : y < n
  · rw [decide_eq_true hy]; simp
  · rw [hr.row_out (by omega)]; simp
theorem rt_sem (r : List Int) (n : Nat) (hn : n ≤ 64) (hr : IsRel n r) : iter (ti r n) n 0 (List.replicate n 0) = transC n r := by
  have H := iter_inv (f := ti r n) (n := n)
    (fun m e => e.length = n ∧ AllU e ∧ ∀ x y, rel e x y = (decide (x < m) && rel r y x))
    (fun m e hm ⟨h1, h2, h3⟩ => by
      obtain ⟨g1, g2, g3⟩ := ti_spec r n m hn hm hr e h1 h2
      refine ⟨g1, g2, fun x y => ?_⟩
      rw [g3 x y, h3 x y]
      by_cases e : x = m
      · subst e; rw [decide_eq_true (show x = x from rfl), decide_eq_true (Nat.lt_succ_self x), decide_eq_false (Nat.lt_irrefl x)]; simp
      · rw [decide_eq_false e]
        by_cases hx : x < m
        · rw [decide_eq_true hx, decide_eq_true (show x < m + 1 by omega)]; simp
        · rw [decide_eq_false hx, decide_eq_false (show ¬ x < m + 1 by omega)]; simp)
    n 0 (List.replicate n 0) (by omega) ⟨by simp, AllU.replicate n, fun x y => by rw [rel_replicate]; simp⟩
  apply mkRel_of hn H.1 H.2.1
  intro i hi j
  rw [H.2.2 i j, decide_eq_true hi, Bool.true_and]
  by_cases hj : j < n
  · rw [decide_eq_true hj, Bool.true_and]
  · rw [decide_eq_false hj, Bool.false_and, hr.row_out (by omega)]
theorem rtrans_eq (r : List Int) (n : Nat) (hn : n ≤ 64) (hr : IsRel n r) (K : Nat) (hK : 5000 ≤ K) : semigroupref02_Transpose.f K r = some (transC n r) := by
  have hl := hr.len
  unfold semigroupref02_Transpose.f
  rw [if_pos (by omega), if_pos (by omega), Int.toNat_natCast, hl]
  have h1 : n * (n + 2) ≤ 64 * 66 := Nat.mul_le_mul hn (by omega)
  obtain ⟨k, rfl⟩ : ∃ k, K = n * (n + 2) + 1 + k := ⟨K - (n * (n + 2) + 1), by omega⟩
  have := rt_l0 r n hn hr n 0 k (List.replicate n 0) (by omega) (by simp)
  rw [show ((0 : Nat) : Int) = 0 from rfl] at this
  rw [this, rt_sem r n hn hr]
end Go.Proofs.YtndpeoladndepaaDoor.RelationCombinesRRefTrans
