/- Plain laws of the lowest bit of a 64-bit number: what 'x and minus x', 'x and (x minus 1)' and the multiplication by the sequence of de Bruijn give, and the list of a number's bits. Conditions: numbers of 64 bits, not zero where the lowest bit is spoken of. -/
import Derived.Test.YtndpeoladndepaaDoorBase
namespace Go.Proofs.YtndpeoladndepaaDoor.Ctz
set_option linter.all false
open Go Go.RowKit Go.Proofs.YtndpeoladndepaaDoorW.PrintWords Go.Proofs.YtndpeoladndepaaDoor.Bit64 Go.Proofs.YtndpeoladndepaaDoor.Base

/-- The lowest bit of a number that is not zero. -/
theorem lowest {x : Int} (hx : U x) (h : x ≠ 0) : ∃ j, j < 64 ∧ tb x j = true ∧ ∀ i, i < j → tb x i = false := by
  obtain ⟨j, hj, hb⟩ := exists_bit hx h
  have key : ∀ n, n ≤ j → (∀ i, i < n → tb x i = false) ∨ ∃ k, k < n ∧ tb x k = true ∧ ∀ i, i < k → tb x i = false := by
    intro n
    induction n with
    | zero => intro _; exact .inl (fun i hi => by omega)
    | succ n ih =>
      intro hn
      rcases ih (by omega) with h1 | ⟨k, hk, h2, h3⟩
      · cases hc : tb x n with
        | true => exact .inr ⟨n, by omega, hc, h1⟩
        | false =>
          refine .inl (fun i hi => ?_)
          by_cases e : i = n
          · subst e; exact hc
          · exact h1 i (by omega)
      · exact .inr ⟨k, by omega, h2, h3⟩
  rcases key j (Nat.le_refl _) with h1 | ⟨k, hk, h2, h3⟩
  · exact ⟨j, hj, hb, h1⟩
  · exact ⟨k, by omega, h2, h3⟩

theorem sub_one_bits (a j : Nat) (hb : a.testBit j = true) (hlo : ∀ i, i < j → a.testBit i = false) (i : Nat) :
    (a - 1).testBit i = if i < j then true else if i = j then false else a.testBit i := by
  have h0 : a % 2 ^ j = 0 := by
    apply Nat.eq_of_testBit_eq
    intro i
    rw [Nat.testBit_mod_two_pow, Nat.zero_testBit]
    by_cases hi : i < j
    · rw [hlo i hi]; simp
    · simp [hi]
  have hodd : (a / 2 ^ j) % 2 = 1 := by
    rw [Nat.testBit_eq_decide_div_mod_eq] at hb
    exact of_decide_eq_true hb
  obtain ⟨m, hm⟩ : ∃ m, a / 2 ^ j = 2 * m + 1 := ⟨a / 2 ^ j / 2, by omega⟩
  have hp := Nat.two_pow_pos j
  have ha : a = 2 ^ j * (2 * m + 1) := by
    have := Nat.div_add_mod a (2 ^ j)
    rw [h0, hm] at this; omega
  have e1 : a - 1 = 2 ^ j * (2 * m) + (2 ^ j - 1) := by
    rw [ha, Nat.mul_add]; omega
  rw [e1, Nat.testBit_two_pow_mul_add _ (by omega : 2 ^ j - 1 < 2 ^ j)]
  by_cases hi : i < j
  · rw [if_pos hi, if_pos hi, Nat.testBit_two_pow_sub_one, decide_eq_true hi]
  · rw [if_neg hi, if_neg hi]
    by_cases e : i = j
    · subst e
      rw [if_pos rfl, Nat.sub_self, Nat.testBit_zero]
      simp
    · rw [if_neg e]
      have : a.testBit i = (2 * m + 1).testBit (i - j) := by
        rw [ha, Nat.testBit_two_pow_mul, decide_eq_true (by omega), Bool.true_and]
      rw [this]
      obtain ⟨q, hq⟩ : ∃ q, i - j = q + 1 := ⟨i - j - 1, by omega⟩
      rw [hq, Nat.testBit_succ, Nat.testBit_succ]
      congr 1
      omega

theorem neg_nat {a : Nat} (h0 : 0 < a) (ha : a < 18446744073709551616) : IntKind.u64.wrap (-(a : Int)) = ((18446744073709551616 - a : Nat) : Int) := by
  rw [IntKind.wrap_u64]; omega
theorem pred_nat {a : Nat} (h0 : 0 < a) (ha : a < 18446744073709551616) : IntKind.u64.wrap ((a : Int) - 1) = ((a - 1 : Nat) : Int) := by
  rw [IntKind.wrap_u64]; omega

/-- 'x & -x' is the lowest bit alone. -/
theorem and_neg {x : Int} (hx : U x) {j : Nat} (hj : j < 64) (hb : tb x j = true) (hlo : ∀ i, i < j → tb x i = false) :
    Go.bits .and .u64 x (IntKind.u64.wrap (-x)) = ((2 ^ j : Nat) : Int) := by
  obtain ⟨a, rfl, ha⟩ := hx.nat
  have h0 : 0 < a := by
    apply Nat.pos_of_ne_zero; intro e; subst e; simp at hb
  rw [neg_nat h0 ha, bits_and_u64_nat _ _ ha (by omega)]
  congr 1
  apply Nat.eq_of_testBit_eq
  intro i
  rw [Nat.testBit_and, Nat.testBit_two_pow]
  rw [show 18446744073709551616 - a = 18446744073709551615 - (a - 1) by omega, testBit_compl (by omega), sub_one_bits a j hb hlo i]
  by_cases h1 : i < j
  · have := hlo i h1
    rw [tb_nat] at this
    rw [this, if_pos h1]
    have hd : decide (j = i) = false := decide_eq_false (by omega)
    rw [hd]; rfl
  · rw [if_neg h1]
    by_cases e : i = j
    · subst e
      rw [if_pos rfl]
      rw [tb_nat] at hb
      simp [hb, hj]
    · rw [if_neg e]
      have hd : decide (j = i) = false := decide_eq_false (by omega)
      rw [hd]
      cases a.testBit i <;> simp

/-- 'x & (x - 1)' lacks the lowest bit alone. -/
theorem U_pred {x : Int} : U (IntKind.u64.wrap (x - 1)) := by
  rw [IntKind.wrap_u64]; exact ⟨by omega, by omega⟩
theorem and_pred {x : Int} (hx : U x) {j : Nat} (hb : tb x j = true) (hlo : ∀ i, i < j → tb x i = false) (i : Nat) :
    tb (Go.bits .and .u64 x (IntKind.u64.wrap (x - 1))) i = (tb x i && decide (i ≠ j)) := by
  rw [tb_and hx U_pred]
  obtain ⟨a, rfl, ha⟩ := hx.nat
  have h0 : 0 < a := by
    apply Nat.pos_of_ne_zero; intro e; subst e; simp at hb
  rw [pred_nat h0 ha, tb_nat, tb_nat, sub_one_bits a j hb hlo i]
  by_cases h1 : i < j
  · have := hlo i h1
    rw [tb_nat] at this
    rw [this]; rfl
  · rw [if_neg h1]
    by_cases e : i = j
    · subst e; simp
    · rw [if_neg e]; simp [e]

/-- The bits of a number, rising. -/
def members (x : Int) : List Nat := (List.range 64).filter (tb x)
theorem members_zero : members 0 = [] := by
  unfold members
  rw [List.filter_eq_nil_iff]
  intro a _; simp
theorem range_cut {j n : Nat} (h : j < n) : List.range n = List.range j ++ j :: List.range' (j + 1) (n - j - 1) := by
  rw [List.range_eq_range', List.range_eq_range']
  have e1 : List.range' 0 n = List.range' 0 j ++ List.range' (0 + 1 * j) (n - j) := by
    rw [List.range'_append]; congr 1; omega
  rw [e1]
  congr 1
  obtain ⟨m, hm⟩ : ∃ m, n - j = m + 1 := ⟨n - j - 1, by omega⟩
  rw [hm, List.range'_succ]
  simp
theorem members_step {x : Int} (hx : U x) {j : Nat} (hj : j < 64) (hb : tb x j = true) (hlo : ∀ i, i < j → tb x i = false) :
    members x = j :: members (Go.bits .and .u64 x (IntKind.u64.wrap (x - 1))) := by
  unfold members
  rw [range_cut hj, List.filter_append, List.filter_append, List.filter_cons, List.filter_cons, if_pos hb]
  have e1 : (List.range j).filter (tb x) = [] := by
    rw [List.filter_eq_nil_iff]; intro a ha; rw [hlo a (List.mem_range.mp ha)]; simp
  have e2 : (List.range j).filter (tb (Go.bits .and .u64 x (IntKind.u64.wrap (x - 1)))) = [] := by
    rw [List.filter_eq_nil_iff]; intro a ha; rw [and_pred hx hb hlo, hlo a (List.mem_range.mp ha)]; simp
  have e3 : ¬ tb (Go.bits .and .u64 x (IntKind.u64.wrap (x - 1))) j = true := by rw [and_pred hx hb hlo]; simp
  rw [e1, e2, if_neg e3, List.nil_append, List.nil_append]
  congr 1
  apply List.filter_congr
  intro a ha
  rw [and_pred hx hb hlo]
  have := List.mem_range'.mp ha
  have hne : a ≠ j := by obtain ⟨i, _, rfl⟩ := this; omega
  simp [hne]
theorem mem_members {x : Int} {j : Nat} : j ∈ members x ↔ j < 64 ∧ tb x j = true := by
  unfold members; rw [List.mem_filter, List.mem_range]
theorem members_len (x : Int) : (members x).length ≤ 64 := by
  unfold members
  have := List.length_filter_le (tb x) (List.range 64)
  rw [List.length_range] at this; exact this

/-- The table of de Bruijn. -/
def TZ : List Int := [0, 1, 56, 2, 57, 49, 28, 3, 61, 58, 42, 50, 38, 29, 17, 4, 62, 47, 59, 36, 45, 43, 51, 22, 53, 39, 33, 30, 24, 18, 12, 5, 63, 55, 48, 27, 60, 41, 37, 16, 46, 35, 44, 21, 52, 32, 23, 11, 54, 26, 40, 15, 34, 20, 31, 10, 25, 14, 19, 9, 13, 8, 7, 6]
theorem table_at : ∀ j : Nat, j < 64 → TZ.getD (2 ^ j * 285870213051353865 % 18446744073709551616 / 288230376151711744) 0 = (j : Int) := by decide +kernel
end Go.Proofs.YtndpeoladndepaaDoor.Ctz
