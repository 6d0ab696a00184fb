/- What the reference's closure computes: the closure by passes over the points. Condition: a valid list of 64-bit numbers. -/
import Derived.Test.YtndpeoladndepaaDoorRelationComponentsRHas
import Derived.Test.YtndpeoladndepaaDoorRelationComponentsRBit
import Derived.Test.YtndpeoladndepaaDoorRelationComponentsRClos
import Derived.Test.YtndpeoladndepaaDoorPRelationComponentsx7
namespace Go.Proofs.YtndpeoladndepaaDoor.RelationComponentsRRefClos
set_option linter.all false
open Go Go.RowKit Go.Proofs.YtndpeoladndepaaDoor.PRelationComponents Go.Proofs.YtndpeoladndepaaDoorW.PrintWords Go.Proofs.YtndpeoladndepaaDoorW.PrintLast Go.Proofs.YtndpeoladndepaaDoor.Bit64 Go.Proofs.YtndpeoladndepaaDoor.Base Go.Proofs.YtndpeoladndepaaDoor.Warsh Go.Proofs.YtndpeoladndepaaDoor.Ctz Go.Proofs.YtndpeoladndepaaDoor.RelOps Go.Proofs.YtndpeoladndepaaDoor.RelationComponentsRHas Go.Proofs.YtndpeoladndepaaDoor.RelationComponentsRBit Go.Proofs.YtndpeoladndepaaDoor.RelationComponentsRValid Go.Proofs.YtndpeoladndepaaDoor.RelationComponentsRClos
theorem rclos_l2 (n m : Nat) (hn : n ≤ 64) (hm : m < n) : ∀ (d i k : Nat) (c : List Int), i + d = n → c.length = n → AllU c →
    semigroupref02_Closure.l2 (d + 1 + k) c (m : Int) (n : Int) (m : Int) (n : Int) (i : Int) = semigroupref02_Closure.l1 k (iter (stepC m) d i c) (n : Int) (((m + 1 : Nat)) : Int) := by
  intro d
  induction d with
  | zero =>
    intro i k c h hl hu
    rw [show 0 + 1 + k = k + 1 by omega]
    simp only [semigroupref02_Closure.l2]
    rw [if_neg (by omega), wrap64_succ (by omega)]; rfl
  | succ d ih =>
    intro i k c h hl hu
    rw [show d + 1 + 1 + k = (d + 1 + k) + 1 by omega]
    simp only [semigroupref02_Closure.l2]
    rw [if_pos (by omega), if_pos (by omega), if_pos (by omega), rd_nat, has_eq (hu.getD i) (by omega)]
    rw [Option.bind_some]
    rw [iter_succ, rd_nat, Int.toNat_natCast]
    by_cases hb : tb (c.getD i 0) m = true
    · rw [if_pos hb, if_pos (by omega), if_pos (by omega), wrap64_succ (by omega), ih (i + 1) k _ (by omega) (by simp; exact hl) (hu.set (U_or (hu.getD i) (hu.getD m)) i)]
      unfold stepC
      rw [if_pos hb]
    · rw [if_neg hb, wrap64_succ (by omega), ih (i + 1) k _ (by omega) hl hu]
      unfold stepC
      rw [if_neg hb]

theorem rclos_l1 (n : Nat) (hn : n ≤ 64) : ∀ (e m k : Nat) (c : List Int), m + e = n → c.length = n → AllU c →
    semigroupref02_Closure.l1 (e * (n + 2) + 1 + k) c (n : Int) (m : Int) = some (iter (fun k c => pass n k c) e m c) := by
  intro e
  induction e with
  | zero =>
    intro m k c h hl hu
    rw [show 0 * (n + 2) + 1 + k = k + 1 by omega]
    simp only [semigroupref02_Closure.l1]
    rw [if_neg (by omega)]; rfl
  | succ e ih =>
    intro m k c h hl hu
    have hm : m < n := by omega
    rw [show (e + 1) * (n + 2) + 1 + k = (n + 1 + (e * (n + 2) + 1 + k)) + 1 by rw [Nat.add_mul]; omega]
    simp only [semigroupref02_Closure.l1]
    obtain ⟨p1, p2, _⟩ := pass_spec (k := m) hl hu hm
    rw [if_pos (by omega), hl]
    have := rclos_l2 n m hn hm n 0 (e * (n + 2) + 1 + k) c (by omega) hl hu
    rw [show ((0 : Nat) : Int) = 0 from rfl] at this
    rw [this, iter_succ]
    exact ih (m + 1) k _ (by omega) p1 p2

def fillR (i : Nat) (c : List Int) : List Int := c.set i (Go.bits .or .u64 (c.getD i 0) (shl .u64 1 (i : Int)))
theorem fillR_all (l : List Int) : iter fillR l.length 0 l = reflC l := by
  have H := iter_inv (f := fillR) (n := l.length)
    (fun i a => a.length = l.length ∧ (∀ j, i ≤ j → a.getD j 0 = l.getD j 0) ∧ ∀ j, j < i → a.getD j 0 = Go.bits .or .u64 (l.getD j 0) (shl .u64 1 (j : Int)))
    (fun i a hi ⟨h1, h0, h2⟩ => ⟨by unfold fillR; simp; exact h1, fun j hj => by
      unfold fillR
      rw [getD_set _ _ _ _ (by omega), if_neg (by omega)]; exact h0 j (by omega), fun j hj => by
      unfold fillR
      rw [getD_set _ _ _ _ (by omega)]
      by_cases e : i = j
      · subst e; rw [if_pos rfl, h0 i (by omega)]
      · rw [if_neg e]; exact h2 j (by omega)⟩)
    l.length 0 l (by omega) ⟨rfl, fun j _ => rfl, fun j hj => by omega⟩
  apply ext_rows (by rw [H.1, reflC_len])
  intro i hi
  rw [H.1] at hi
  rw [H.2.2 i hi, reflC_getD l i hi]

theorem rclos_l0 (n : Nat) (hn : n ≤ 64) : ∀ (d i k : Nat) (c : List Int), i + d = n → c.length = n →
    semigroupref02_Closure.l0 (d + 1 + k) c (n : Int) (i : Int) = semigroupref02_Closure.l1 k (iter fillR d i c) (n : Int) 0 := by
  intro d
  induction d with
  | zero =>
    intro i k c h hl
    rw [show 0 + 1 + k = k + 1 by omega]
    simp only [semigroupref02_Closure.l0]
    rw [if_neg (by omega), hl]; rfl
  | succ d ih =>
    intro i k c h hl
    rw [show d + 1 + 1 + k = (d + 1 + k) + 1 by omega]
    simp only [semigroupref02_Closure.l0]
    rw [if_pos (by omega), if_pos (by omega), if_pos (by omega), bit_eq (by omega)]
    rw [Option.bind_some]
    rw [rd_nat, Int.toNat_natCast, wrap64_succ (by omega), iter_succ]
    exact ih (i + 1) k _ (by omega) (by simp; exact hl)

theorem rclos_eq (l : List Int) (hu : AllU l) (hv : vb l = true) (K : Nat) (hK : big ≤ K) : semigroupref02_Closure.f K l = some (closC l) := by
  have hn := vb_len hv
  have hs := sq hn
  unfold big at hK
  unfold semigroupref02_Closure.f
  rw [Option.bind_some]
  rw [if_pos (by simp; omega), List.nil_append, Option.bind_some]
  obtain ⟨k, rfl⟩ : ∃ k, K = l.length + 1 + (l.length * (l.length + 2) + 1 + k) := ⟨K - (l.length + 1 + (l.length * (l.length + 2) + 1)), by omega⟩
  have h0 := rclos_l0 l.length hn l.length 0 (l.length * (l.length + 2) + 1 + k) l (by omega) rfl
  rw [show ((0 : Nat) : Int) = 0 from rfl] at h0
  rw [h0, fillR_all l]
  exact rclos_l1 l.length hn l.length 0 k (reflC l) (by omega) (reflC_len l) (reflC_u hu hn)
end Go.Proofs.YtndpeoladndepaaDoor.RelationComponentsRRefClos
