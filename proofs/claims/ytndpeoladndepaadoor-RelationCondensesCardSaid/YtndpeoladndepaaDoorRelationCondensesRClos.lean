/- What the program's closure computes: the closure by passes over the points, or no rows. Condition: at most 64 rows of 64-bit numbers, valid for the program's. -/
import Derived.Test.YtndpeoladndepaaDoorRelOps
import Derived.Test.YtndpeoladndepaaDoorRelationCondensesRValid
import Derived.Test.YtndpeoladndepaaDoorPRelationCondensesx6
namespace Go.Proofs.YtndpeoladndepaaDoor.RelationCondensesRClos
set_option linter.all false
open Go Go.RowKit Go.Proofs.YtndpeoladndepaaDoor.PRelationCondenses Go.Proofs.YtndpeoladndepaaDoorW.PrintWords Go.Proofs.YtndpeoladndepaaDoorW.PrintLast Go.Proofs.YtndpeoladndepaaDoor.Bit64 Go.Proofs.YtndpeoladndepaaDoor.Base Go.Proofs.YtndpeoladndepaaDoor.Warsh Go.Proofs.YtndpeoladndepaaDoor.RelationCondensesRValid

theorem rd_nat (c : List Int) (i : Nat) : rd c (i : Int) = c.getD i 0 := by unfold rd; rw [Int.toNat_natCast]

theorem clos_l2 (n m : Nat) (hn : n ≤ 64) (hm : m < n) : ∀ (d i k : Nat) (c : List Int), i + d = n → c.length = n → AllU c →
    relation_Closure.l2 (d + 1 + k) c (m : Int) (n : Int) (m : Int) (n : Int) (i : Int) = relation_Closure.l1 k (iter (stepC m) d i c) (n : Int) (((m + 1 : Nat)) : Int) := by
  intro d
  induction d with
  | zero =>
    intro i k c h hl hu
    rw [show 0 + 1 + k = k + 1 by omega]
    simp only [relation_Closure.l2]
    rw [if_neg (by omega), wrap64_succ (by omega)]; rfl
  | succ d ih =>
    intro i k c h hl hu
    rw [show d + 1 + 1 + k = (d + 1 + k) + 1 by omega]
    simp only [relation_Closure.l2]
    rw [if_pos (by omega), if_pos (by omega), if_pos (by omega), wrap_idx (by omega) (by omega), if_pos (by omega), rd_nat, rd_nat, bit_at (hu.getD i) (by omega) (by omega), Int.toNat_natCast, Int.toNat_natCast, iter_succ]
    by_cases hb : tb (c.getD i 0) m = true
    · rw [if_pos hb, if_pos rfl, if_pos (by omega), if_pos (by omega), wrap64_succ (by omega), ih (i + 1) k _ (by omega) (by simp; exact hl) (hu.set (U_or (hu.getD i) (hu.getD m)) i)]
      unfold stepC
      rw [if_pos hb]
    · rw [if_neg hb, if_neg (by decide), wrap64_succ (by omega), ih (i + 1) k _ (by omega) hl hu]
      unfold stepC
      rw [if_neg hb]

theorem clos_l1 (n : Nat) (hn : n ≤ 64) : ∀ (e m k : Nat) (c : List Int), m + e = n → c.length = n → AllU c →
    relation_Closure.l1 (e * (n + 2) + 1 + k) c (n : Int) (m : Int) = some (iter (fun k c => pass n k c) e m c) := by
  intro e
  induction e with
  | zero =>
    intro m k c h hl hu
    rw [show 0 * (n + 2) + 1 + k = k + 1 by omega]
    simp only [relation_Closure.l1]
    rw [if_neg (by omega)]; rfl
  | succ e ih =>
    intro m k c h hl hu
    have hm : m < n := by omega
    rw [show (e + 1) * (n + 2) + 1 + k = (n + 1 + (e * (n + 2) + 1 + k)) + 1 by rw [Nat.add_mul]; omega]
    simp only [relation_Closure.l1]
    obtain ⟨p1, p2, _⟩ := pass_spec (k := m) hl hu hm
    rw [if_pos (by omega), hl]
    have := clos_l2 n m hn hm n 0 (e * (n + 2) + 1 + k) c (by omega) hl hu
    rw [show ((0 : Nat) : Int) = 0 from rfl] at this
    rw [this, iter_succ]
    exact ih (m + 1) k _ (by omega) p1 p2

def fillC (l : List Int) (i : Nat) (c : List Int) : List Int := c.set i (Go.bits .or .u64 (l.getD i 0) (shl .u64 1 (i : Int)))
theorem fillC_all (l : List Int) (c : List Int) (hl : c.length = l.length) : iter (fillC l) l.length 0 c = reflC l := by
  have H := iter_inv (f := fillC l) (n := l.length)
    (fun i a => a.length = l.length ∧ ∀ j, j < i → a.getD j 0 = Go.bits .or .u64 (l.getD j 0) (shl .u64 1 (j : Int)))
    (fun i a hi ⟨h1, h2⟩ => ⟨by unfold fillC; simp; exact h1, fun j hj => by
      unfold fillC
      rw [getD_set _ _ _ _ (by omega)]
      by_cases e : i = j
      · subst e; rw [if_pos rfl]
      · rw [if_neg e]; exact h2 j (by omega)⟩)
    l.length 0 c (by omega) ⟨hl, fun j hj => by omega⟩
  apply ext_rows (by rw [H.1, reflC_len])
  intro i hi
  rw [H.1] at hi
  rw [H.2 i hi, reflC_getD l i hi]

theorem clos_l0 (l : List Int) (hn : l.length ≤ 64) (hu : AllU l) : ∀ (d i k : Nat) (c : List Int), i + d = l.length → c.length = l.length →
    relation_Closure.l0 (d + 1 + k) l c (l.length : Int) (i : Int) = relation_Closure.l1 k (iter (fillC l) d i c) (l.length : Int) 0 := by
  intro d
  induction d with
  | zero =>
    intro i k c h hl
    rw [show 0 + 1 + k = k + 1 by omega]
    simp only [relation_Closure.l0]
    rw [if_neg (by omega), hl]; rfl
  | succ d ih =>
    intro i k c h hl
    rw [show d + 1 + 1 + k = (d + 1 + k) + 1 by omega]
    simp only [relation_Closure.l0]
    rw [if_pos (by omega), if_pos (by omega), if_pos (by omega), wrap_idx (by omega) (by omega), if_pos (by omega), if_pos (by omega), rd_nat, Int.toNat_natCast, wrap64_succ (by omega), iter_succ]
    exact ih (i + 1) k _ (by omega) (by simp; exact hl)

/-- Rounds enough for all of this. -/
def big : Nat := 5000
theorem sq {n : Nat} (h : n ≤ 64) : n * (n + 2) ≤ 4224 := by
  have : n * (n + 2) ≤ 64 * 66 := Nat.mul_le_mul h (by omega)
  omega

theorem clos_eq (l : List Int) (hu : AllU l) (hv : vb l = true) (K : Nat) (hK : big ≤ K) : relation_Closure.f K l = some (closC l) := by
  have hn := vb_len hv
  have hs := sq hn
  unfold big at hK
  unfold relation_Closure.f
  rw [valid_eq l hu K (by omega), hv]
  rw [Option.bind_some]
  rw [if_pos rfl, if_pos (by omega), if_pos (by omega), Int.toNat_natCast]
  obtain ⟨k, rfl⟩ : ∃ k, K = l.length + 1 + (l.length * (l.length + 2) + 1 + k) := ⟨K - (l.length + 1 + (l.length * (l.length + 2) + 1)), by omega⟩
  have h0 := clos_l0 l hn hu l.length 0 (l.length * (l.length + 2) + 1 + k) (List.replicate l.length 0) (by omega) (by simp)
  rw [show ((0 : Nat) : Int) = 0 from rfl] at h0
  rw [h0, fillC_all l _ (by simp)]
  exact clos_l1 l.length hn l.length 0 k (reflC l) (by omega) (reflC_len l) (reflC_u hu hn)
theorem clos_bad (l : List Int) (hu : AllU l) (hv : vb l = false) (K : Nat) (hK : big ≤ K) : relation_Closure.f K l = some [] := by
  unfold big at hK
  unfold relation_Closure.f
  rw [valid_eq l hu K (by omega), hv]
  rw [Option.bind_some]
  rw [if_neg (by decide)]

theorem awake_clos : closC [2, 0] = [3, 2] := by decide +kernel
theorem awake_u : AllU [2, 0] := by
  intro x hx
  simp at hx
  rcases hx with rfl | rfl <;> exact ⟨by omega, by omega⟩
end Go.Proofs.YtndpeoladndepaaDoor.RelationCondensesRClos
