/- What the program's and the reference's test of validity answer: both that all rows lie below the number of the rows. No condition. -/
import Derived.Test.YtndpeoladndepaaDoorBase
import Derived.Test.YtndpeoladndepaaDoorPRelationCondensesx6
namespace Go.Proofs.YtndpeoladndepaaDoor.RelationCondensesRValid
set_option linter.all false
open Go Go.RowKit Go.Proofs.YtndpeoladndepaaDoor.PRelationCondenses Go.Proofs.YtndpeoladndepaaDoorW.PrintWords Go.Proofs.YtndpeoladndepaaDoorW.PrintLast Go.Proofs.YtndpeoladndepaaDoor.Bit64 Go.Proofs.YtndpeoladndepaaDoor.Base

/-- A relation: at most 64 rows, each below 2 to the number of the rows. -/
def vb (l : List Int) : Bool := decide (l.length ≤ 64) && l.all fun x => decide (x < ((2 ^ l.length : Nat) : Int))

theorem pow_le {n : Nat} (h : n ≤ 64) : 2 ^ n ≤ 18446744073709551616 := Nat.pow_le_pow_right (n := 2) (by decide) h
theorem pow_pos' (n : Nat) : 0 < 2 ^ n := Nat.two_pow_pos n
theorem mask_eq {n : Nat} (h : n ≤ 64) : relation_mask.f (n : Int) = some (((2 ^ n - 1 : Nat)) : Int) := by
  unfold relation_mask.f
  by_cases e : n = 64
  · subst e; rfl
  · have hp : 2 ^ n < 2 ^ 64 := Nat.pow_lt_pow_right (by decide) (by omega)
    have h1 := pow_pos' n
    rw [if_neg (by omega), wrap_idx (by omega) (by omega), if_pos (by omega), shl_one (by omega), IntKind.wrap_u64]
    congr 1
    omega

theorem below_iff {x : Int} (hx : U x) {n : Nat} (h : n ≤ 64) : Go.bits .andNot .u64 x (((2 ^ n - 1 : Nat)) : Int) = 0 ↔ x < ((2 ^ n : Nat) : Int) := by
  have hp := pow_le h
  have h1 := pow_pos' n
  have hm : U (((2 ^ n - 1 : Nat)) : Int) := U_nat (by omega)
  constructor
  · intro h0
    obtain ⟨a, rfl, ha⟩ := hx.nat
    have hb : ∀ j, n ≤ j → a.testBit j = false := by
      intro j hj
      have := tb_andNot (U_nat ha) hm j
      rw [h0, tb_zero, tb_ones h, tb_nat] at this
      have hd : decide (j < n) = false := decide_eq_false (by omega)
      rw [hd] at this
      simpa using this.symm
    have := Nat.lt_pow_two_of_testBit a hb
    omega
  · intro hlt
    apply eq_zero (U_andNot hx hm)
    intro j _
    rw [tb_andNot hx hm, tb_ones h]
    by_cases hj : j < n
    · simp [hj]
    · obtain ⟨a, rfl, ha⟩ := hx.nat
      have : a.testBit j = false := Nat.testBit_lt_two_pow (Nat.lt_of_lt_of_le (by omega : a < 2 ^ n) (Nat.pow_le_pow_right (by decide) (by omega)))
      rw [tb_nat, this]; rfl

theorem valid_loop (l : List Int) (hu : AllU l) (hn : l.length ≤ 64) : ∀ (d i k : Nat), i + d = l.length →
    relation_Valid.l0 (d + 1 + k) l l (l.length : Int) (i : Int) = some ((l.drop i).all fun x => decide (x < ((2 ^ l.length : Nat) : Int))) := by
  intro d
  induction d with
  | zero =>
    intro i k h
    rw [show 0 + 1 + k = k + 1 by omega]
    simp only [relation_Valid.l0]
    rw [if_neg (by omega), List.drop_eq_nil_of_le (by omega)]; rfl
  | succ d ih =>
    intro i k h
    have hi : i < l.length := by omega
    rw [show d + 1 + 1 + k = (d + 1 + k) + 1 by omega]
    simp only [relation_Valid.l0]
    rw [if_pos (by omega), if_pos (by omega), if_pos (by omega), mask_eq hn]
    rw [Option.bind_some]
    have e : rd l (i : Int) = l[i] := by
      unfold rd; rw [Int.toNat_natCast, List.getD_eq_getElem?_getD, List.getElem?_eq_getElem hi]; rfl
    have hd : l.drop i = l[i] :: l.drop (i + 1) := List.drop_eq_getElem_cons hi
    rw [e, hd, List.all_cons]
    have hx : U l[i] := hu _ (List.getElem_mem hi)
    by_cases hb : l[i] < ((2 ^ l.length : Nat) : Int)
    · rw [if_pos ((below_iff hx hn).mpr hb), wrap64_succ (by omega), ih (i + 1) k (by omega), decide_eq_true hb, Bool.true_and]
    · rw [if_neg (fun h => hb ((below_iff hx hn).mp h)), decide_eq_false hb, Bool.false_and]

theorem valid_eq (l : List Int) (hu : AllU l) (K : Nat) (hK : 66 ≤ K) : relation_Valid.f K l = some (vb l) := by
  unfold relation_Valid.f vb
  by_cases h : l.length ≤ 64
  · rw [if_neg (by omega), decide_eq_true h, Bool.true_and]
    obtain ⟨k, rfl⟩ : ∃ k, K = l.length + 1 + k := ⟨K - (l.length + 1), by omega⟩
    have := valid_loop l hu h l.length 0 k (by omega)
    rw [List.drop_zero] at this
    exact this
  · rw [if_pos (by omega), decide_eq_false h, Bool.false_and]

theorem rvalid_loop (l : List Int) (hu : AllU l) (hn : l.length ≤ 64) : ∀ (d i k : Nat), i + d = l.length →
    semigroupref02_Valid.l0 (d + 1 + k) l l (l.length : Int) (i : Int) = some ((l.drop i).all fun x => decide (x < ((2 ^ l.length : Nat) : Int))) := by
  intro d
  induction d with
  | zero =>
    intro i k h
    rw [show 0 + 1 + k = k + 1 by omega]
    simp only [semigroupref02_Valid.l0]
    rw [if_neg (by omega), List.drop_eq_nil_of_le (by omega)]; rfl
  | succ d ih =>
    intro i k h
    have hi : i < l.length := by omega
    rw [show d + 1 + 1 + k = (d + 1 + k) + 1 by omega]
    simp only [semigroupref02_Valid.l0]
    have e : rd l (i : Int) = l[i] := by
      unfold rd; rw [Int.toNat_natCast, List.getD_eq_getElem?_getD, List.getElem?_eq_getElem hi]; rfl
    have hd : l.drop i = l[i] :: l.drop (i + 1) := List.drop_eq_getElem_cons hi
    have hx : U l[i] := hu _ (List.getElem_mem hi)
    rw [hd, List.all_cons]
    by_cases h64 : l.length = 64
    · have hb : l[i] < ((2 ^ l.length : Nat) : Int) := by rw [h64]; exact hx.2
      rw [if_pos (by omega), if_pos (by omega), if_pos (by omega), if_neg (by omega), wrap64_succ (by omega), ih (i + 1) k (by omega), decide_eq_true hb, Bool.true_and]
    · rw [if_pos (by omega), if_pos (by omega), if_pos (by omega), if_pos (by omega), wrap_idx (by omega) (by omega), if_pos (by omega), e]
      obtain ⟨a, ea, ha⟩ := hx.nat
      rw [ea, shr_nat a (by omega)]
      by_cases hb : (a : Int) < ((2 ^ l.length : Nat) : Int)
      · have : a / 2 ^ l.length = 0 := Nat.div_eq_of_lt (by omega)
        rw [if_pos (by rw [this]; rfl), wrap64_succ (by omega), ih (i + 1) k (by omega), decide_eq_true hb, Bool.true_and]
      · have : 0 < a / 2 ^ l.length := Nat.div_pos (by omega) (pow_pos' _)
        rw [if_neg (by omega), decide_eq_false hb, Bool.false_and]

theorem rvalid_eq (l : List Int) (hu : AllU l) (K : Nat) (hK : 66 ≤ K) : semigroupref02_Valid.f K l = some (vb l) := by
  unfold semigroupref02_Valid.f vb
  by_cases h : l.length ≤ 64
  · rw [if_neg (by omega), decide_eq_true h, Bool.true_and]
    obtain ⟨k, rfl⟩ : ∃ k, K = l.length + 1 + k := ⟨K - (l.length + 1), by omega⟩
    have := rvalid_loop l hu h l.length 0 k (by omega)
    rw [List.drop_zero] at this
    exact this
  · rw [if_pos (by omega), decide_eq_false h, Bool.false_and]

theorem vb_len {l : List Int} (h : vb l = true) : l.length ≤ 64 := by
  unfold vb at h; simp at h; exact h.1
theorem vb_row {l : List Int} (h : vb l = true) (i : Nat) : l.getD i 0 < ((2 ^ l.length : Nat) : Int) := by
  unfold vb at h; simp at h
  rw [List.getD_eq_getElem?_getD]
  by_cases hi : i < l.length
  · rw [List.getElem?_eq_getElem hi]; have := h.2 _ (List.getElem_mem hi); simpa using this
  · rw [List.getElem?_eq_none (by omega)]; show (0 : Int) < _; have := pow_pos' l.length; omega
end Go.Proofs.YtndpeoladndepaaDoor.RelationCondensesRValid
