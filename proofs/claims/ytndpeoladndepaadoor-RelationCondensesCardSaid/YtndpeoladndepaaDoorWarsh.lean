/- The closure of a relation by passes over the points, in plain Lean: it is reflexive and transitive, contains the relation, and lies within every reflexive and transitive relation that contains it. Conditions: at most 64 rows of 64-bit numbers, each row below 2 to the number of rows. -/
import Derived.Test.YtndpeoladndepaaDoorBase
namespace Go.Proofs.YtndpeoladndepaaDoor.Warsh
set_option linter.all false
open Go Go.RowKit Go.Proofs.YtndpeoladndepaaDoorW.PrintWords Go.Proofs.YtndpeoladndepaaDoor.Bit64 Go.Proofs.YtndpeoladndepaaDoor.Base

/-- Is point i related to point j? -/
def rel (c : List Int) (i j : Nat) : Bool := tb (c.getD i 0) j

theorem lt_pow_iff {x : Int} (hx : U x) {n : Nat} : x < ((2 ^ n : Nat) : Int) ↔ ∀ j, n ≤ j → tb x j = false := by
  obtain ⟨a, rfl, ha⟩ := hx.nat
  constructor
  · intro h j hj
    exact Nat.testBit_lt_two_pow (Nat.lt_of_lt_of_le (by omega : a < 2 ^ n) (Nat.pow_le_pow_right (by decide) hj))
  · intro h
    have := Nat.lt_pow_two_of_testBit a h
    omega

/-- A relation on n points. -/
structure IsRel (n : Nat) (c : List Int) : Prop where
  len : c.length = n
  u : AllU c
  out : ∀ i j, n ≤ j → rel c i j = false

theorem IsRel.row_out {n : Nat} {c : List Int} (h : IsRel n c) {i : Nat} (hi : n ≤ i) (j : Nat) : rel c i j = false := by
  unfold rel
  rw [List.getD_eq_getElem?_getD, List.getElem?_eq_none (by rw [h.len]; exact hi)]; exact tb_zero j
theorem IsRel.lt {n : Nat} {c : List Int} (h : IsRel n c) {i j : Nat} (hr : rel c i j = true) : i < n ∧ j < n := by
  constructor
  · apply Classical.byContradiction; intro hn; rw [h.row_out (by omega)] at hr; cases hr
  · apply Classical.byContradiction; intro hn; rw [h.out i j (by omega)] at hr; cases hr
theorem IsRel.ext {n : Nat} {a b : List Int} (ha : IsRel n a) (hb : IsRel n b) (hn : n ≤ 64) (h : ∀ i j, i < n → j < n → rel a i j = rel b i j) : a = b := by
  apply ext_rows (by rw [ha.len, hb.len])
  intro i hi
  apply Bit64.ext (ha.u.getD i) (hb.u.getD i)
  intro j _
  rw [ha.len] at hi
  by_cases hj : j < n
  · exact h i j hi hj
  · have h1 := ha.out i j (by omega)
    have h2 := hb.out i j (by omega)
    unfold rel at h1 h2
    rw [h1, h2]

/-- One row of one pass. -/
def stepC (k i : Nat) (c : List Int) : List Int := if tb (c.getD i 0) k = true then c.set i (Go.bits .or .u64 (c.getD i 0) (c.getD k 0)) else c

theorem stepC_len (k i : Nat) (c : List Int) : (stepC k i c).length = c.length := by
  unfold stepC; split <;> simp
theorem stepC_u {c : List Int} (h : AllU c) (k i : Nat) : AllU (stepC k i c) := by
  unfold stepC; split
  · exact h.set (U_or (h.getD i) (h.getD k)) i
  · exact h
theorem stepC_rel {c : List Int} (h : AllU c) (k i : Nat) (hi : i < c.length) (x j : Nat) :
    rel (stepC k i c) x j = if i = x then (rel c i j || (rel c i k && rel c k j)) else rel c x j := by
  unfold stepC
  by_cases hk : tb (c.getD i 0) k = true
  · rw [if_pos hk]
    unfold rel
    rw [getD_set _ _ _ _ hi]
    by_cases e : i = x
    · rw [if_pos e, if_pos e, tb_or (h.getD i) (h.getD k), hk, Bool.true_and]
    · rw [if_neg e, if_neg e]
  · rw [if_neg hk]
    have hf : rel c i k = false := by unfold rel; simpa using hk
    by_cases e : i = x
    · rw [if_pos e, ← e, hf]; simp
    · rw [if_neg e]

/-- One pass. -/
def pass (n k : Nat) (c : List Int) : List Int := iter (stepC k) n 0 c
theorem pass_spec {n k : Nat} {c : List Int} (hl : c.length = n) (hu : AllU c) (_hk : k < n) :
    (pass n k c).length = n ∧ AllU (pass n k c) ∧ ∀ x, x < n → ∀ j, rel (pass n k c) x j = (rel c x j || (rel c x k && rel c k j)) := by
  have H := iter_inv (f := stepC k) (n := n)
    (fun i a => a.length = n ∧ AllU a ∧ ∀ x, x < n → ∀ j, rel a x j = if x < i then (rel c x j || (rel c x k && rel c k j)) else rel c x j)
    (fun i a hi ⟨h1, h2, h3⟩ => by
      refine ⟨by rw [stepC_len, h1], stepC_u h2 k i, fun x hx j => ?_⟩
      have hkj : ∀ j, rel a k j = rel c k j := by
        intro j
        rw [h3 k _hk j]
        split
        · cases rel c k j <;> simp
        · rfl
      rw [stepC_rel h2 k i (by omega)]
      by_cases e : i = x
      · subst e
        rw [if_pos rfl, if_pos (by omega), h3 i hi j, if_neg (by omega), h3 i hi k, if_neg (by omega), hkj j]
      · rw [if_neg e, h3 x hx j]
        by_cases hxi : x < i
        · rw [if_pos hxi, if_pos (by omega)]
        · rw [if_neg hxi, if_neg (by omega)])
    n 0 c (by omega) ⟨hl, hu, fun x _ j => by rw [if_neg (by omega)]⟩
  refine ⟨H.1, H.2.1, fun x hx j => ?_⟩
  have := H.2.2 x hx j
  rw [if_pos hx] at this
  exact this

/-- The relation with each point related to itself. -/
def reflC (l : List Int) : List Int := (List.range l.length).map fun (i : Nat) => Go.bits .or .u64 (l.getD i 0) (shl .u64 1 (i : Int))
theorem reflC_len (l : List Int) : (reflC l).length = l.length := by simp [reflC]
theorem reflC_getD (l : List Int) (i : Nat) (hi : i < l.length) : (reflC l).getD i 0 = Go.bits .or .u64 (l.getD i 0) (shl .u64 1 (i : Int)) := by
  unfold reflC
  rw [List.getD_eq_getElem?_getD, List.getElem?_map, List.getElem?_range hi]; rfl
theorem reflC_u {l : List Int} (h : AllU l) (hn : l.length ≤ 64) : AllU (reflC l) := by
  intro x hx
  unfold reflC at hx
  obtain ⟨i, hi, rfl⟩ := List.mem_map.mp hx
  have := List.mem_range.mp hi
  exact U_or (h.getD i) (U_shl (by omega) (by omega))
theorem reflC_rel {l : List Int} (h : AllU l) (hn : l.length ≤ 64) (i : Nat) (hi : i < l.length) (j : Nat) : rel (reflC l) i j = (rel l i j || decide (j = i)) := by
  unfold rel
  rw [reflC_getD l i hi, tb_or (h.getD i) (U_shl (by omega) (by omega)), tb_shl (by omega) (by omega), Int.toNat_natCast]

/-- The closure. -/
def closC (l : List Int) : List Int := iter (fun k c => pass l.length k c) l.length 0 (reflC l)

structure Clos (l c : List Int) : Prop where
  isrel : IsRel l.length c
  refl : ∀ i, i < l.length → rel c i i = true
  sub : ∀ i j, rel l i j = true → rel c i j = true
  trans : ∀ i k j, rel c i k = true → rel c k j = true → rel c i j = true
  least : ∀ S : Nat → Nat → Prop, (∀ i, i < l.length → S i i) → (∀ i j, rel l i j = true → S i j) → (∀ i k j, S i k → S k j → S i j) → ∀ i j, rel c i j = true → S i j

theorem clos_spec {l : List Int} (hr : IsRel l.length l) (hn : l.length ≤ 64) : Clos l (closC l) := by
  have hu := hr.u
  have H := iter_inv (f := fun k c => pass l.length k c) (n := l.length)
    (fun m c => IsRel l.length c ∧ (∀ i, i < l.length → rel c i i = true) ∧ (∀ i j, rel l i j = true → rel c i j = true) ∧
      (∀ k, k < m → ∀ i j, rel c i k = true → rel c k j = true → rel c i j = true) ∧
      (∀ S : Nat → Nat → Prop, (∀ i, i < l.length → S i i) → (∀ i j, rel l i j = true → S i j) → (∀ i k j, S i k → S k j → S i j) → ∀ i j, rel c i j = true → S i j))
    (fun m c hm ⟨h1, h2, h3, h4, h5⟩ => by
      obtain ⟨p1, p2, p3⟩ := pass_spec h1.len h1.u hm
      have R : IsRel l.length (pass l.length m c) := by
        refine ⟨p1, p2, fun i j hj => ?_⟩
        by_cases hi : i < l.length
        · rw [p3 i hi j, h1.out i j hj, h1.out m j hj]; simp
        · unfold rel; rw [List.getD_eq_getElem?_getD, List.getElem?_eq_none (by rw [p1]; omega)]; exact tb_zero j
      have up : ∀ i j, rel c i j = true → rel (pass l.length m c) i j = true := fun i j h => by rw [p3 i (h1.lt h).1 j, h]; rfl
      have dn : ∀ i j, rel (pass l.length m c) i j = true → rel c i j = true ∨ (rel c i m = true ∧ rel c m j = true) := fun i j h => by
        rw [p3 i (R.lt h).1 j] at h; simpa using h
      refine ⟨R, fun i hi => up i i (h2 i hi), fun i j h => up i j (h3 i j h), ?_, ?_⟩
      · intro k hk i j hik hkj
        have key : (rel c i j = true ∨ (rel c i m = true ∧ rel c m j = true)) → rel (pass l.length m c) i j = true := by
          rintro (h | ⟨ha, hb⟩)
          · exact up i j h
          · rw [p3 i (h1.lt ha).1 j, ha, hb]; simp
        apply key
        by_cases e : k = m
        · subst e
          right
          constructor
          · rcases dn _ _ hik with h | ⟨h, _⟩ <;> exact h
          · rcases dn _ _ hkj with h | ⟨_, h⟩ <;> exact h
        · have hkm : k < m := by omega
          rcases dn _ _ hik with ha | ⟨ha, ha'⟩ <;> rcases dn _ _ hkj with hb | ⟨hb, hb'⟩
          · exact .inl (h4 k hkm i j ha hb)
          · exact .inr ⟨h4 k hkm i m ha hb, hb'⟩
          · exact .inr ⟨ha, h4 k hkm m j ha' hb⟩
          · exact .inr ⟨ha, hb'⟩
      · intro S s1 s2 s3 i j h
        rcases dn _ _ h with h | ⟨ha, hb⟩
        · exact h5 S s1 s2 s3 i j h
        · exact s3 i m j (h5 S s1 s2 s3 i m ha) (h5 S s1 s2 s3 m j hb))
    l.length 0 (reflC l) (by omega) (by
      have R : IsRel l.length (reflC l) := by
        refine ⟨reflC_len l, reflC_u hu hn, fun i j hj => ?_⟩
        by_cases hi : i < l.length
        · rw [reflC_rel hu hn i hi, hr.out i j hj]; simp; omega
        · unfold rel; rw [List.getD_eq_getElem?_getD, List.getElem?_eq_none (by rw [reflC_len]; omega)]; exact tb_zero j
      refine ⟨R, fun i hi => by rw [reflC_rel hu hn i hi]; simp, fun i j h => by rw [reflC_rel hu hn i (hr.lt h).1, h]; rfl, fun k hk => by omega, ?_⟩
      intro S s1 s2 s3 i j h
      have hi := (R.lt h).1
      rw [reflC_rel hu hn i hi] at h
      simp at h
      rcases h with h | h
      · exact s2 i j h
      · subst h; exact s1 j hi)
  obtain ⟨h1, h2, h3, h4, h5⟩ := H
  exact ⟨h1, h2, h3, fun i k j a b => h4 k (h1.lt a).2 i j a b, h5⟩
end Go.Proofs.YtndpeoladndepaaDoor.Warsh
