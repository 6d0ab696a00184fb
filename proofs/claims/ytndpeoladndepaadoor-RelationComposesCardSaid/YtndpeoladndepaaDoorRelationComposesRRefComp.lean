/- What the reference's product computes: the product of the relations. Condition: two relations on as many points, at most 64. -/
import Derived.Test.YtndpeoladndepaaDoorRelationComposesRHas
import Derived.Test.YtndpeoladndepaaDoorRelationComposesRBit
import Derived.Test.YtndpeoladndepaaDoorPRelationComposesx3
namespace Go.Proofs.YtndpeoladndepaaDoor.RelationComposesRRefComp
set_option linter.all false
open Go Go.RowKit Go.Proofs.YtndpeoladndepaaDoor.PRelationComposes Go.Proofs.YtndpeoladndepaaDoorW.PrintWords Go.Proofs.YtndpeoladndepaaDoorW.PrintLast Go.Proofs.YtndpeoladndepaaDoor.Bit64 Go.Proofs.YtndpeoladndepaaDoor.Base Go.Proofs.YtndpeoladndepaaDoor.Warsh Go.Proofs.YtndpeoladndepaaDoor.Ctz Go.Proofs.YtndpeoladndepaaDoor.RelOps Go.Proofs.YtndpeoladndepaaDoor.RelationComposesRHas Go.Proofs.YtndpeoladndepaaDoor.RelationComposesRBit
theorem rd_nat (c : List Int) (i : Nat) : rd c (i : Int) = c.getD i 0 := by unfold rd; rw [Int.toNat_natCast]
def kstep (a b : List Int) (i j k : Nat) (c : List Int) : List Int := if rel a i j = true then (if rel b j k = true then addB i k c else c) else c
def jstep (a b : List Int) (n i j : Nat) (c : List Int) : List Int := iter (kstep a b i j) n 0 c
def istep (a b : List Int) (n i : Nat) (c : List Int) : List Int := iter (jstep a b n i) n 0 c
theorem kstep_len (a b : List Int) (i j k : Nat) (c : List Int) : (kstep a b i j k c).length = c.length := by
  unfold kstep; split
  · split
    · exact addB_len i k c
    · rfl
  · rfl
theorem iter_len {f : Nat → List Int → List Int} (h : ∀ i c, (f i c).length = c.length) : ∀ (d i : Nat) (c : List Int), (iter f d i c).length = c.length := by
  intro d
  induction d with
  | zero => intro i c; rfl
  | succ d ih => intro i c; rw [iter_succ, ih, h]
theorem jstep_len (a b : List Int) (n i j : Nat) (c : List Int) : (jstep a b n i j c).length = c.length := iter_len (kstep_len a b i j) n 0 c
theorem istep_len (a b : List Int) (n i : Nat) (c : List Int) : (istep a b n i c).length = c.length := iter_len (jstep_len a b n i) n 0 c

theorem rcomp_l2 (a b : List Int) (n i j : Nat) (hn : n ≤ 64) (hi : i < n) (hj : j < n) (ha : IsRel n a) (hb : IsRel n b) : ∀ (d x k : Nat) (c : List Int), x + d = n → c.length = n →
    semigroupref02_Compose.l2 (d + 1 + k) a b c (i : Int) (j : Int) (n : Int) (i : Int) (n : Int) (j : Int) (n : Int) (x : Int) = semigroupref02_Compose.l1 k a b (iter (kstep a b i j) d x c) (i : Int) (n : Int) (i : Int) (n : Int) (((j + 1 : Nat)) : Int) := by
  have hla := ha.len
  have hlb := hb.len
  intro d
  induction d with
  | zero =>
    intro x k c h hc
    rw [show 0 + 1 + k = k + 1 by omega]
    simp only [semigroupref02_Compose.l2]
    rw [if_neg (by omega), wrap64_succ (by omega)]; rfl
  | succ d ih =>
    intro x k c h hc
    rw [show d + 1 + 1 + k = (d + 1 + k) + 1 by omega]
    simp only [semigroupref02_Compose.l2]
    rw [if_pos (by omega), if_pos (by omega), if_pos (by omega), rd_nat, has_eq (ha.u.getD i) (by omega)]
    rw [Option.bind_some]
    rw [iter_succ, wrap64_succ (by omega), rd_nat, rd_nat, Int.toNat_natCast]
    by_cases h1 : tb (a.getD i 0) j = true
    · rw [if_pos h1, if_pos (by omega), if_pos (by omega), has_eq (hb.u.getD j) (by omega)]
      rw [Option.bind_some]
      by_cases h2 : tb (b.getD j 0) x = true
      · rw [if_pos h2, if_pos (by omega), bit_eq (by omega)]
        rw [Option.bind_some]
        rw [ih (x + 1) k _ (by omega) (by simp; exact hc)]
        unfold kstep rel addB
        rw [if_pos h1, if_pos h2]
      · rw [if_neg h2, ih (x + 1) k _ (by omega) hc]
        unfold kstep rel
        rw [if_pos h1, if_neg h2]
    · rw [if_neg h1, ih (x + 1) k _ (by omega) hc]
      unfold kstep rel
      rw [if_neg h1]

theorem rcomp_l1 (a b : List Int) (n i : Nat) (hn : n ≤ 64) (hi : i < n) (ha : IsRel n a) (hb : IsRel n b) : ∀ (e j k : Nat) (c : List Int), j + e = n → c.length = n →
    semigroupref02_Compose.l1 (e * (n + 2) + 1 + k) a b c (i : Int) (n : Int) (i : Int) (n : Int) (j : Int) = semigroupref02_Compose.l0 k a b (iter (jstep a b n i) e j c) (n : Int) (((i + 1 : Nat)) : Int) := by
  have hla := ha.len
  intro e
  induction e with
  | zero =>
    intro j k c h hc
    rw [show 0 * (n + 2) + 1 + k = k + 1 by omega]
    simp only [semigroupref02_Compose.l1]
    rw [if_neg (by omega), wrap64_succ (by omega)]; rfl
  | succ e ih =>
    intro j k c h hc
    have hj : j < n := by omega
    rw [show (e + 1) * (n + 2) + 1 + k = (n + 1 + (e * (n + 2) + 1 + k)) + 1 by rw [Nat.add_mul]; omega]
    simp only [semigroupref02_Compose.l1]
    rw [if_pos (by omega), hla]
    have := rcomp_l2 a b n i j hn hi hj ha hb n 0 (e * (n + 2) + 1 + k) c (by omega) hc
    rw [show ((0 : Nat) : Int) = 0 from rfl] at this
    rw [this, iter_succ]
    exact ih (j + 1) k _ (by omega) (by rw [iter_len (kstep_len a b i j), hc])

theorem rcomp_l0 (a b : List Int) (n : Nat) (hn : n ≤ 64) (ha : IsRel n a) (hb : IsRel n b) : ∀ (g i k : Nat) (c : List Int), i + g = n → c.length = n →
    semigroupref02_Compose.l0 (g * (n * (n + 2) + 2) + 1 + k) a b c (n : Int) (i : Int) = some (iter (istep a b n) g i c) := by
  have hla := ha.len
  intro g
  induction g with
  | zero =>
    intro i k c h hc
    rw [show 0 * (n * (n + 2) + 2) + 1 + k = k + 1 by omega]
    simp only [semigroupref02_Compose.l0]
    rw [if_neg (by omega)]; rfl
  | succ g ih =>
    intro i k c h hc
    have hi : i < n := by omega
    rw [show (g + 1) * (n * (n + 2) + 2) + 1 + k = (n * (n + 2) + 1 + (g * (n * (n + 2) + 2) + 1 + k)) + 1 by rw [Nat.add_mul]; omega]
    simp only [semigroupref02_Compose.l0]
    rw [if_pos (by omega), hla]
    have := rcomp_l1 a b n i hn hi ha hb n 0 (g * (n * (n + 2) + 2) + 1 + k) c (by omega) hc
    rw [show ((0 : Nat) : Int) = 0 from rfl] at this
    rw [this, iter_succ]
    exact ih (i + 1) k _ (by omega) (by rw [iter_len (jstep_len a b n i), hc])

theorem kiter_spec (a b : List Int) (n i j : Nat) (hn : n ≤ 64) (hi : i < n) (hb : IsRel n b) (c : List Int) (hc : c.length = n) (hu : AllU c) :
    (jstep a b n i j c).length = n ∧ AllU (jstep a b n i j c) ∧ ∀ x y, rel (jstep a b n i j c) x y = (rel c x y || (decide (x = i) && (rel a i j && rel b j y))) := by
  have H := iter_inv (f := kstep a b i j) (n := n)
    (fun m e => e.length = n ∧ AllU e ∧ ∀ x y, rel e x y = (rel c x y || (decide (x = i) && (rel a i j && (decide (y < m) && rel b j y)))))
    (fun m e hm ⟨h1, h2, h3⟩ => by
      refine ⟨by rw [kstep_len, h1], ?_, fun x y => ?_⟩
      · unfold kstep
        split
        · split
          · exact addB_u h2 i (by omega)
          · exact h2
        · exact h2
      · unfold kstep
        by_cases q1 : rel a i j = true
        · rw [if_pos q1]
          by_cases q2 : rel b j m = true
          · rw [if_pos q2, addB_rel h2 (by omega) (by omega), h3 x y, q1]
            by_cases ey : y = m
            · subst ey
              rw [q2, decide_eq_true (Nat.lt_succ_self y), decide_eq_true (show y = y from rfl), decide_eq_false (Nat.lt_irrefl y)]; simp
            · have : decide (y < m + 1) = decide (y < m) := by
                by_cases hy : y < m
                · rw [decide_eq_true hy, decide_eq_true (by omega)]
                · rw [decide_eq_false hy, decide_eq_false (by omega)]
              rw [this, decide_eq_false ey]; simp
          · rw [if_neg q2, h3 x y, q1]
            by_cases ey : y = m
            · subst ey
              have : rel b j y = false := by simpa using q2
              rw [this]; simp
            · have : decide (y < m + 1) = decide (y < m) := by
                by_cases hy : y < m
                · rw [decide_eq_true hy, decide_eq_true (by omega)]
                · rw [decide_eq_false hy, decide_eq_false (by omega)]
              rw [this]
        · have : rel a i j = false := by simpa using q1
          rw [if_neg q1, h3 x y, this]; simp)
    n 0 c (by omega) ⟨hc, hu, fun x y => by simp⟩
  refine ⟨H.1, H.2.1, fun x y => ?_⟩
  rw [show rel (jstep a b n i j c) x y = _ from H.2.2 x y]
  by_cases hy : y < n
  · rw [decide_eq_true hy]; simp
  · rw [hb.out j y (by omega)]; simp

theorem jiter_spec (a b : List Int) (n i : Nat) (hn : n ≤ 64) (hi : i < n) (hb : IsRel n b) (c : List Int) (hc : c.length = n) (hu : AllU c) :
    (istep a b n i c).length = n ∧ AllU (istep a b n i c) ∧ ∀ x y, rel (istep a b n i c) x y = (rel c x y || (decide (x = i) && anyB n fun j => rel a i j && rel b j y)) := by
  exact iter_inv (f := jstep a b n i) (n := n)
    (fun m e => e.length = n ∧ AllU e ∧ ∀ x y, rel e x y = (rel c x y || (decide (x = i) && anyB m fun j => rel a i j && rel b j y)))
    (fun m e hm ⟨h1, h2, h3⟩ => by
      obtain ⟨g1, g2, g3⟩ := kiter_spec a b n i m hn hi hb e h1 h2
      refine ⟨g1, g2, fun x y => ?_⟩
      rw [g3 x y, h3 x y, anyB_succ]
      cases rel c x y <;> cases decide (x = i) <;> simp)
    n 0 c (by omega) ⟨hc, hu, fun x y => by rw [anyB_zero]; simp⟩

theorem rcomp_sem (a b : List Int) (n : Nat) (hn : n ≤ 64) (hb : IsRel n b) : iter (istep a b n) n 0 (List.replicate n 0) = compC n a b := by
  have H := iter_inv (f := istep a b n) (n := n)
    (fun m e => e.length = n ∧ AllU e ∧ ∀ x y, rel e x y = (decide (x < m) && anyB n fun j => rel a x j && rel b j y))
    (fun m e hm ⟨h1, h2, h3⟩ => by
      obtain ⟨g1, g2, g3⟩ := jiter_spec a b n m hn hm hb e h1 h2
      refine ⟨g1, g2, fun x y => ?_⟩
      rw [g3 x y, h3 x y]
      by_cases e : x = m
      · subst e; rw [decide_eq_true (show x = x from rfl), decide_eq_true (Nat.lt_succ_self x), decide_eq_false (Nat.lt_irrefl x)]; simp
      · rw [decide_eq_false e]
        by_cases hx : x < m
        · rw [decide_eq_true hx, decide_eq_true (show x < m + 1 by omega)]; simp
        · rw [decide_eq_false hx, decide_eq_false (show ¬ x < m + 1 by omega)]; simp)
    n 0 (List.replicate n 0) (by omega) ⟨by simp, AllU.replicate n, fun x y => by rw [rel_replicate]; simp⟩
  apply mkRel_of hn H.1 H.2.1
  intro i hi j
  rw [H.2.2 i j, decide_eq_true hi, Bool.true_and]
  by_cases hj : j < n
  · rw [decide_eq_true hj, Bool.true_and]
  · rw [decide_eq_false hj, Bool.false_and]
    apply bool_eq
    rw [anyB_iff]
    constructor
    · rintro ⟨x, hx, h⟩
      simp at h
      rw [hb.out x j (by omega)] at h
      exact absurd h.2 (by decide)
    · intro h; cases h

theorem rcomp_eq (a b : List Int) (n : Nat) (hn : n ≤ 64) (ha : IsRel n a) (hb : IsRel n b) (K : Nat) (hK : 300000 ≤ K) : semigroupref02_Compose.f K a b = some (compC n a b) := by
  have hla := ha.len
  unfold semigroupref02_Compose.f
  rw [if_pos (by omega), if_pos (by omega), Int.toNat_natCast, hla]
  have h1 : n * (n + 2) ≤ 64 * 66 := Nat.mul_le_mul hn (by omega)
  have h2 : n * (n * (n + 2) + 2) ≤ 64 * 4226 := Nat.mul_le_mul hn (by omega)
  obtain ⟨k, rfl⟩ : ∃ k, K = n * (n * (n + 2) + 2) + 1 + k := ⟨K - (n * (n * (n + 2) + 2) + 1), by omega⟩
  have := rcomp_l0 a b n hn ha hb n 0 k (List.replicate n 0) (by omega) (by simp)
  rw [show ((0 : Nat) : Int) = 0 from rfl] at this
  rw [this, rcomp_sem a b n hn hb]
end Go.Proofs.YtndpeoladndepaaDoor.RelationComposesRRefComp
