/- Plain laws of the bits of numbers of 64 bits: how the model's and, or, and-not and shifts read bit by bit, and that numbers with the same bits are equal. No condition beyond the range of the numbers. -/
import Derived.Laws.Bits64b
import Derived.Laws.BitsAllLaws
import Derived.Test.YtndpeoladndepaaDoorWMore
namespace Go.Proofs.YtndpeoladndepaaDoor.Bit64
set_option linter.all false
open Go Go.Proofs.YtndpeoladndepaaDoorW.PrintWords

/-- A number of 64 bits. -/
def U (x : Int) : Prop := 0 ≤ x ∧ x < 18446744073709551616
/-- Its bit j. -/
def tb (x : Int) (j : Nat) : Bool := x.toNat.testBit j

theorem U_of_wf {x : Int} (h : (Lit.int .u64 x).wf = true) : U x := by
  simp [Lit.wf, IntKind.min, IntKind.max, IntKind.signed, IntKind.bits] at h
  exact ⟨h.1, by omega⟩
theorem U.nat {x : Int} (h : U x) : ∃ a : Nat, x = a ∧ a < 18446744073709551616 := ⟨x.toNat, by have := h.1; omega, by have := h.2; have := h.1; omega⟩
theorem U_nat {a : Nat} (h : a < 18446744073709551616) : U (a : Int) := ⟨by omega, by omega⟩
theorem U_zero : U 0 := ⟨by omega, by omega⟩
@[simp] theorem tb_nat (a j : Nat) : tb (a : Int) j = a.testBit j := rfl
@[simp] theorem tb_zero (j : Nat) : tb 0 j = false := by unfold tb; simp

theorem or_nat {a b : Nat} (ha : a < 18446744073709551616) (hb : b < 18446744073709551616) : a ||| b < 18446744073709551616 := Nat.or_lt_two_pow (n := 64) ha hb
theorem and_nat {a b : Nat} (hb : b < 18446744073709551616) : a &&& b < 18446744073709551616 := Nat.and_lt_two_pow (n := 64) _ hb

theorem U_or {x y : Int} (hx : U x) (hy : U y) : U (Go.bits .or .u64 x y) := by
  obtain ⟨a, rfl, ha⟩ := hx.nat
  obtain ⟨b, rfl, hb⟩ := hy.nat
  rw [bits_or_u64_nat a b ha hb]; exact U_nat (or_nat ha hb)
theorem tb_or {x y : Int} (hx : U x) (hy : U y) (j : Nat) : tb (Go.bits .or .u64 x y) j = (tb x j || tb y j) := by
  obtain ⟨a, rfl, ha⟩ := hx.nat
  obtain ⟨b, rfl, hb⟩ := hy.nat
  rw [bits_or_u64_nat a b ha hb]; simp
theorem U_and {x y : Int} (hx : U x) (hy : U y) : U (Go.bits .and .u64 x y) := by
  obtain ⟨a, rfl, ha⟩ := hx.nat
  obtain ⟨b, rfl, hb⟩ := hy.nat
  rw [bits_and_u64_nat a b ha hb]; exact U_nat (and_nat hb)
theorem tb_and {x y : Int} (hx : U x) (hy : U y) (j : Nat) : tb (Go.bits .and .u64 x y) j = (tb x j && tb y j) := by
  obtain ⟨a, rfl, ha⟩ := hx.nat
  obtain ⟨b, rfl, hb⟩ := hy.nat
  rw [bits_and_u64_nat a b ha hb]; simp

theorem ofInt_nat {a : Nat} (h : a < 18446744073709551616) : (BitVec.ofInt 64 (a : Int)).toNat = a := by
  rw [BitVec.ofInt_natCast, BitVec.toNat_ofNat]; exact Nat.mod_eq_of_lt (by omega)
theorem andNot_nat (a b : Nat) (ha : a < 18446744073709551616) (hb : b < 18446744073709551616) :
    Go.bits .andNot .u64 (a : Int) (b : Int) = ((a &&& (18446744073709551615 - b) : Nat) : Int) := by
  have hx : a &&& (18446744073709551615 - b) < 2 ^ 64 := Nat.and_lt_two_pow _ (by omega)
  show IntKind.u64.wrap ((BitVec.ofInt 64 (a : Int) &&& ~~~ BitVec.ofInt 64 (b : Int)).toNat : Int) = _
  rw [BitVec.toNat_and, BitVec.toNat_not, ofInt_nat ha, ofInt_nat hb, IntKind.wrap_u64]
  have e : 2 ^ 64 - 1 - b = 18446744073709551615 - b := by omega
  rw [e]
  omega
theorem U_andNot {x y : Int} (hx : U x) (hy : U y) : U (Go.bits .andNot .u64 x y) := by
  obtain ⟨a, rfl, ha⟩ := hx.nat
  obtain ⟨b, rfl, hb⟩ := hy.nat
  rw [andNot_nat a b ha hb]; exact U_nat (and_nat (by omega))
theorem testBit_compl {b j : Nat} (hb : b < 18446744073709551616) : (18446744073709551615 - b).testBit j = (decide (j < 64) && !b.testBit j) := by
  have := Nat.testBit_two_pow_sub_succ (x := b) (n := 64) hb j
  rw [show 18446744073709551615 - b = 2 ^ 64 - (b + 1) by omega]; exact this
theorem tb_ge {x : Int} (hx : U x) {j : Nat} (hj : 64 ≤ j) : tb x j = false := by
  obtain ⟨a, rfl, ha⟩ := hx.nat
  exact Nat.testBit_lt_two_pow (Nat.lt_of_lt_of_le ha (by have := Nat.pow_le_pow_right (n := 2) (by decide) hj; simpa using this))
theorem tb_andNot {x y : Int} (hx : U x) (hy : U y) (j : Nat) : tb (Go.bits .andNot .u64 x y) j = (tb x j && !tb y j) := by
  by_cases hj : 64 ≤ j
  · rw [tb_ge (U_andNot hx hy) hj, tb_ge hx hj]; rfl
  obtain ⟨a, rfl, ha⟩ := hx.nat
  obtain ⟨b, rfl, hb⟩ := hy.nat
  rw [andNot_nat a b ha hb, tb_nat, Nat.testBit_and, testBit_compl hb, decide_eq_true (by omega), Bool.true_and]; rfl

theorem ext {x y : Int} (hx : U x) (hy : U y) (h : ∀ j, j < 64 → tb x j = tb y j) : x = y := by
  have h' : ∀ j, tb x j = tb y j := fun j => by
    by_cases hj : j < 64
    · exact h j hj
    · rw [tb_ge hx (by omega), tb_ge hy (by omega)]
  obtain ⟨a, rfl, ha⟩ := hx.nat
  obtain ⟨b, rfl, hb⟩ := hy.nat
  have : a = b := Nat.eq_of_testBit_eq (fun j => by simpa using h' j)
  rw [this]
theorem eq_zero {x : Int} (hx : U x) (h : ∀ j, j < 64 → tb x j = false) : x = 0 := ext hx U_zero (fun j hj => by rw [h j hj, tb_zero])
theorem exists_bit {x : Int} (hx : U x) (h : x ≠ 0) : ∃ j, j < 64 ∧ tb x j = true := by
  apply Classical.byContradiction
  intro hn
  exact h (eq_zero hx (fun j hj => by
    cases hb : tb x j with
    | false => rfl
    | true => exact absurd ⟨j, hj, hb⟩ hn))

/-- The count of a shift, as the program computes it of an index. -/
theorem wrap_idx {i : Int} (h0 : 0 ≤ i) (h : i < 18446744073709551616) : IntKind.u64.wrap i = i := by
  rw [IntKind.wrap_u64]; omega
theorem shl_one {n : Nat} (h : n < 64) : shl .u64 1 (n : Int) = ((2 ^ n : Nat) : Int) := by
  unfold shl
  have hp : 2 ^ n < 2 ^ 64 := Nat.pow_lt_pow_right (by decide) h
  have e : min ((n : Int).toNat) IntKind.u64.bits = n := by simp [IntKind.bits]; omega
  rw [e, IntKind.wrap_u64, Int.one_mul]
  have e2 : (2 : Int) ^ n = ((2 ^ n : Nat) : Int) := by simp
  rw [e2]
  exact Int.emod_eq_of_lt (Int.natCast_nonneg _) (Int.ofNat_lt.mpr hp)
theorem U_shl {n : Int} (h0 : 0 ≤ n) (h : n < 64) : U (shl .u64 1 n) := by
  obtain ⟨m, rfl⟩ : ∃ m : Nat, n = m := ⟨n.toNat, by omega⟩
  rw [shl_one (by omega)]
  exact U_nat (Nat.pow_lt_pow_right (n := 64) (by decide) (by omega))
theorem tb_shl {n : Int} (h0 : 0 ≤ n) (h : n < 64) (j : Nat) : tb (shl .u64 1 n) j = decide (j = n.toNat) := by
  obtain ⟨m, rfl⟩ : ∃ m : Nat, n = m := ⟨n.toNat, by omega⟩
  rw [shl_one (by omega), tb_nat, Nat.testBit_two_pow]
  simp [eq_comm]
theorem shr_nat (a : Nat) {n : Nat} (h : n < 64) : shr .u64 (a : Int) (n : Int) = ((a / 2 ^ n : Nat) : Int) := by
  unfold shr
  have e : min ((n : Int).toNat) IntKind.u64.bits = n := by simp [IntKind.bits]; omega
  rw [e]
  simp
theorem U_shr {x n : Int} (hx : U x) (h0 : 0 ≤ n) (h : n < 64) : U (shr .u64 x n) := by
  obtain ⟨m, rfl⟩ : ∃ m : Nat, n = m := ⟨n.toNat, by omega⟩
  obtain ⟨a, rfl, ha⟩ := hx.nat
  rw [shr_nat a (by omega)]
  exact U_nat (Nat.lt_of_le_of_lt (Nat.div_le_self _ _) ha)
theorem tb_shr {x n : Int} (hx : U x) (h0 : 0 ≤ n) (h : n < 64) (j : Nat) : tb (shr .u64 x n) j = tb x (j + n.toNat) := by
  obtain ⟨m, rfl⟩ : ∃ m : Nat, n = m := ⟨n.toNat, by omega⟩
  obtain ⟨a, rfl, ha⟩ := hx.nat
  rw [shr_nat a (by omega), tb_nat, tb_nat, Nat.testBit_div_two_pow, Int.toNat_natCast]
theorem and_one {x : Int} (hx : U x) : Go.bits .and .u64 x 1 = if tb x 0 = true then 1 else 0 := by
  obtain ⟨a, rfl, ha⟩ := hx.nat
  have := bits_and_u64_nat a 1 ha (by omega)
  rw [show ((1 : Nat) : Int) = 1 from rfl] at this
  rw [this, Nat.and_one_is_mod, tb_nat, Nat.testBit_zero]
  by_cases h : a % 2 = 1
  · simp [h]
  · have h0 : a % 2 = 0 := by omega
    simp [h0]
/-- 'x >> n & 1': the bit n. -/
theorem bit_at {x n : Int} (hx : U x) (h0 : 0 ≤ n) (h : n < 64) : Go.bits .and .u64 (shr .u64 x n) 1 = if tb x n.toNat = true then 1 else 0 := by
  rw [and_one (U_shr hx h0 h), tb_shr hx h0 h, Nat.zero_add]
theorem bit_at_eq {x n : Int} (hx : U x) (h0 : 0 ≤ n) (h : n < 64) : (Go.bits .and .u64 (shr .u64 x n) 1 == 1) = tb x n.toNat := by
  rw [bit_at hx h0 h]
  cases tb x n.toNat <;> simp
theorem U_lit {x : Int} (h0 : 0 ≤ x) (h : x < 18446744073709551616) : U x := ⟨h0, h⟩
/-- The bits below n. -/
theorem tb_ones {n : Nat} (h : n ≤ 64) (j : Nat) : tb (((2 ^ n - 1 : Nat)) : Int) j = decide (j < n) := by
  rw [tb_nat, Nat.testBit_two_pow_sub_one]
end Go.Proofs.YtndpeoladndepaaDoor.Bit64
