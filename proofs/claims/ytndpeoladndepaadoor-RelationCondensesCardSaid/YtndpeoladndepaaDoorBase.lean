/- Plain words for loops over a range and for rows of 64-bit numbers. No condition. -/
import Derived.Test.YtndpeoladndepaaDoorBit64
namespace Go.Proofs.YtndpeoladndepaaDoor.Base
set_option linter.all false
open Go Go.RowKit Go.Proofs.YtndpeoladndepaaDoor.Bit64

/-- f at i, i + 1, .., i + d - 1. -/
def iter {α : Type} (f : Nat → α → α) : Nat → Nat → α → α
  | 0, _, a => a
  | d + 1, i, a => iter f d (i + 1) (f i a)
theorem iter_succ {α : Type} (f : Nat → α → α) (d i : Nat) (a : α) : iter f (d + 1) i a = iter f d (i + 1) (f i a) := rfl
theorem iter_inv {α : Type} {f : Nat → α → α} (P : Nat → α → Prop) {n : Nat} (step : ∀ i a, i < n → P i a → P (i + 1) (f i a)) :
    ∀ (d i : Nat) (a : α), i + d = n → P i a → P n (iter f d i a) := by
  intro d
  induction d with
  | zero => intro i a h hp; obtain rfl : i = n := by omega
            exact hp
  | succ d ih => intro i a h hp; exact ih (i + 1) (f i a) (by omega) (step i a (by omega) hp)
theorem iter_congr {α : Type} {f g : Nat → α → α} {n : Nat} (h : ∀ i a, i < n → f i a = g i a) : ∀ (d i : Nat) (a : α), i + d = n → iter f d i a = iter g d i a := by
  intro d
  induction d with
  | zero => intro i a _; rfl
  | succ d ih => intro i a hn; rw [iter_succ, iter_succ, h i a (by omega)]; exact ih _ _ (by omega)

/-- All numbers of a list are of 64 bits. -/
def AllU (c : List Int) : Prop := ∀ x ∈ c, U x
theorem AllU.getD {c : List Int} (h : AllU c) (i : Nat) : U (c.getD i 0) := by
  rw [List.getD_eq_getElem?_getD]
  by_cases hi : i < c.length
  · rw [List.getElem?_eq_getElem hi]; exact h _ (List.getElem_mem hi)
  · rw [List.getElem?_eq_none (by omega)]; exact U_zero
theorem AllU.set {c : List Int} (h : AllU c) {x : Int} (hx : U x) (i : Nat) : AllU (c.set i x) := by
  intro y hy
  rcases List.mem_or_eq_of_mem_set hy with hy | rfl
  · exact h y hy
  · exact hx
theorem AllU.replicate (n : Nat) : AllU (List.replicate n 0) := by
  intro x hx
  rw [(List.mem_replicate.mp hx).2]; exact U_zero
theorem AllU.of_wf {c : List Int} (h : ∀ x ∈ c, (Lit.int .u64 x).wf = true) : AllU c := fun x hx => U_of_wf (h x hx)
theorem getD_set (c : List Int) (i j : Nat) (x : Int) (hi : i < c.length) : (c.set i x).getD j 0 = if i = j then x else c.getD j 0 := by
  rw [List.getD_eq_getElem?_getD, List.getElem?_set, List.getD_eq_getElem?_getD]
  by_cases h : i = j
  · rw [if_pos h, if_pos h, if_pos hi]; rfl
  · rw [if_neg h, if_neg h]
theorem ext_rows {a b : List Int} (hl : a.length = b.length) (h : ∀ i, i < a.length → a.getD i 0 = b.getD i 0) : a = b := by
  apply List.ext_getElem hl
  intro i h1 h2
  have := h i h1
  simpa [List.getD_eq_getElem?_getD, List.getElem?_eq_getElem h1, List.getElem?_eq_getElem h2] using this

theorem wrap64_succ {i : Nat} (h : i < 9223372036854775807) : wrap64 ((i : Int) + 1) = ((i + 1 : Nat) : Int) := by
  unfold wrap64; omega
theorem wrap64_id {i : Int} (h0 : -9223372036854775808 ≤ i) (h : i < 9223372036854775808) : wrap64 i = i := by
  unfold wrap64; omega
end Go.Proofs.YtndpeoladndepaaDoor.Base
