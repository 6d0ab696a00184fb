/- The components of a preorder on n points, in plain Lean: each point's component is numbered by the least points of the components that stand ahead of it; the order of the components. Condition: a reflexive and transitive relation on at most 64 points. -/
import Derived.Test.YtndpeoladndepaaDoorRelOps
namespace Go.Proofs.YtndpeoladndepaaDoor.CompC
set_option linter.all false
open Go Go.RowKit Go.Proofs.YtndpeoladndepaaDoorW.PrintWords Go.Proofs.YtndpeoladndepaaDoor.Bit64 Go.Proofs.YtndpeoladndepaaDoor.Base Go.Proofs.YtndpeoladndepaaDoor.Warsh Go.Proofs.YtndpeoladndepaaDoor.RelOps

/-- Each of two points is related to the other. -/
def eqv (c : List Int) (i j : Nat) : Bool := rel c i j && rel c j i
structure Pre (n : Nat) (c : List Int) : Prop where
  isrel : IsRel n c
  refl : ∀ i, i < n → rel c i i = true
  trans : ∀ i k j, rel c i k = true → rel c k j = true → rel c i j = true
theorem Pre.of_clos {l c : List Int} (h : Clos l c) : Pre l.length c := ⟨h.isrel, h.refl, h.trans⟩

section
variable {n : Nat} {c : List Int}
theorem eqv_iff {i j : Nat} : eqv c i j = true ↔ rel c i j = true ∧ rel c j i = true := by unfold eqv; simp
theorem Pre.eqv_refl (h : Pre n c) {i : Nat} (hi : i < n) : eqv c i i = true := eqv_iff.mpr ⟨h.refl i hi, h.refl i hi⟩
theorem eqv_symm {i j : Nat} (e : eqv c i j = true) : eqv c j i = true := eqv_iff.mpr ⟨(eqv_iff.mp e).2, (eqv_iff.mp e).1⟩
theorem Pre.eqv_trans (h : Pre n c) {i j k : Nat} (e : eqv c i j = true) (f : eqv c j k = true) : eqv c i k = true :=
  eqv_iff.mpr ⟨h.trans i j k (eqv_iff.mp e).1 (eqv_iff.mp f).1, h.trans k j i (eqv_iff.mp f).2 (eqv_iff.mp e).2⟩
theorem Pre.eqv_lt (h : Pre n c) {i j : Nat} (e : eqv c i j = true) : i < n ∧ j < n := h.isrel.lt (eqv_iff.mp e).1

/-- Is a point the least of its component? -/
def isRep (c : List Int) (i : Nat) : Bool := !anyB i (eqv c i)
/-- How many points below i are the least of their components. -/
def cnt (c : List Int) (i : Nat) : Nat := ((List.range i).filter (isRep c)).length
theorem cnt_zero : cnt c 0 = 0 := rfl
theorem cnt_succ (i : Nat) : cnt c (i + 1) = cnt c i + if isRep c i = true then 1 else 0 := by
  unfold cnt
  rw [List.range_succ, List.filter_append, List.length_append]
  congr 1
  by_cases h : isRep c i = true
  · rw [if_pos h, List.filter_cons, if_pos h]; rfl
  · rw [if_neg h, List.filter_cons, if_neg h]; rfl
theorem cnt_le (i : Nat) : cnt c i ≤ i := by
  unfold cnt
  have := List.length_filter_le (isRep c) (List.range i)
  rw [List.length_range] at this; exact this
theorem cnt_mono {i j : Nat} (h : i ≤ j) : cnt c i ≤ cnt c j := by
  induction j with
  | zero => have : i = 0 := by omega
            subst this; exact Nat.le_refl _
  | succ j ih =>
    by_cases e : i = j + 1
    · subst e; exact Nat.le_refl _
    · have := ih (by omega)
      rw [cnt_succ]; omega
theorem cnt_lt {i j : Nat} (hi : isRep c i = true) (h : i < j) : cnt c i < cnt c j := by
  have := cnt_mono (c := c) (show i + 1 ≤ j by omega)
  rw [cnt_succ, if_pos hi] at this; omega

/-- The least point of a point's component: the first in a list from i on. -/
def repFrom (c : List Int) (j : Nat) : Nat → Nat → Nat
  | 0, i => i
  | d + 1, i => if eqv c j i = true then i else repFrom c j d (i + 1)
def rep (c : List Int) (j : Nat) : Nat := repFrom c j j 0
theorem repFrom_spec (c : List Int) (j : Nat) (hjj : eqv c j j = true) : ∀ (d i : Nat), i + d = j → (∀ k, k < i → eqv c j k = false) →
    repFrom c j d i ≤ j ∧ eqv c j (repFrom c j d i) = true ∧ ∀ k, k < repFrom c j d i → eqv c j k = false := by
  intro d
  induction d with
  | zero => intro i h hk; obtain rfl : i = j := by omega
            exact ⟨Nat.le_refl _, hjj, hk⟩
  | succ d ih =>
    intro i h hk
    unfold repFrom
    by_cases e : eqv c j i = true
    · rw [if_pos e]; exact ⟨by omega, e, hk⟩
    · rw [if_neg e]
      exact ih (i + 1) (by omega) (fun k hk' => by
        by_cases ek : k = i
        · subst ek; simpa using e
        · exact hk k (by omega))
theorem Pre.rep_spec (h : Pre n c) {j : Nat} (hj : j < n) : rep c j ≤ j ∧ eqv c j (rep c j) = true ∧ ∀ k, k < rep c j → eqv c j k = false :=
  repFrom_spec c j (h.eqv_refl hj) j 0 (by omega) (fun k hk => by omega)
theorem Pre.rep_isRep (h : Pre n c) {j : Nat} (hj : j < n) : isRep c (rep c j) = true := by
  obtain ⟨h1, h2, h3⟩ := h.rep_spec hj
  unfold isRep
  cases ha : anyB (rep c j) (eqv c (rep c j)) with
  | false => rfl
  | true =>
    obtain ⟨k, hk, e⟩ := anyB_iff.mp ha
    have := h.eqv_trans h2 e
    rw [h3 k hk] at this; cases this
theorem Pre.rep_eq (h : Pre n c) {i j : Nat} (e : eqv c i j = true) : rep c i = rep c j := by
  obtain ⟨hi, hj⟩ := h.eqv_lt e
  obtain ⟨i1, i2, i3⟩ := h.rep_spec hi
  obtain ⟨j1, j2, j3⟩ := h.rep_spec hj
  have a : ¬ rep c i < rep c j := fun hlt => by
    have := h.eqv_trans (eqv_symm e) i2
    rw [j3 _ hlt] at this; cases this
  have b : ¬ rep c j < rep c i := fun hlt => by
    have := h.eqv_trans e j2
    rw [i3 _ hlt] at this; cases this
  omega
theorem Pre.eqv_of_rep (h : Pre n c) {i j : Nat} (hi : i < n) (hj : j < n) (e : rep c i = rep c j) : eqv c i j = true := by
  have h1 := (h.rep_spec hi).2.1
  have h2 := (h.rep_spec hj).2.1
  rw [e] at h1
  exact h.eqv_trans h1 (eqv_symm h2)
theorem Pre.rep_lt_iff (h : Pre n c) {i : Nat} (hi : i < n) : rep c i = i ↔ isRep c i = true := by
  constructor
  · intro e; have := h.rep_isRep hi; rw [e] at this; exact this
  · intro e
    obtain ⟨h1, h2, h3⟩ := h.rep_spec hi
    apply Classical.byContradiction
    intro hne
    unfold isRep at e
    have : anyB i (eqv c i) = true := anyB_iff.mpr ⟨rep c i, by omega, h2⟩
    rw [this] at e; cases e

/-- The number of a point's component. -/
def comp (c : List Int) (j : Nat) : Nat := cnt c (rep c j)
theorem Pre.comp_eq_iff (h : Pre n c) {i j : Nat} (hi : i < n) (hj : j < n) : comp c i = comp c j ↔ eqv c i j = true := by
  constructor
  · intro e
    apply h.eqv_of_rep hi hj
    apply Classical.byContradiction
    intro hne
    unfold comp at e
    rcases Nat.lt_or_gt_of_ne hne with hlt | hlt
    · have := cnt_lt (h.rep_isRep hi) hlt; omega
    · have := cnt_lt (h.rep_isRep hj) hlt; omega
  · intro e; unfold comp; rw [h.rep_eq e]
theorem Pre.comp_lt (h : Pre n c) {j : Nat} (hj : j < n) : comp c j < cnt c n := cnt_lt (h.rep_isRep hj) (by have := (h.rep_spec hj).1; omega)
theorem Pre.comp_of_rep (h : Pre n c) {i : Nat} (hi : i < n) (hr : isRep c i = true) : comp c i = cnt c i := by
  unfold comp; rw [(h.rep_lt_iff hi).mpr hr]
theorem Pre.comp_onto (h : Pre n c) {x : Nat} (hx : x < cnt c n) : ∃ i, i < n ∧ comp c i = x := by
  have key : ∀ m, m ≤ n → x < cnt c m → ∃ i, i < m ∧ isRep c i = true ∧ cnt c i = x := by
    intro m
    induction m with
    | zero => intro _ h0; rw [cnt_zero] at h0; omega
    | succ m ih =>
      intro hm hlt
      by_cases hc : x < cnt c m
      · obtain ⟨i, h1, h2⟩ := ih (by omega) hc; exact ⟨i, by omega, h2⟩
      · rw [cnt_succ] at hlt
        by_cases hr : isRep c m = true
        · rw [if_pos hr] at hlt; exact ⟨m, by omega, hr, by omega⟩
        · rw [if_neg hr] at hlt; omega
  obtain ⟨i, h1, h2, h3⟩ := key n (Nat.le_refl _) hx
  exact ⟨i, h1, by rw [h.comp_of_rep h1 h2, h3]⟩
theorem cnt_all {n : Nat} (h : ∀ i, i < n → isRep c i = true) : cnt c n = n := by
  induction n with
  | zero => rfl
  | succ n ih => rw [cnt_succ, ih (fun i hi => h i (by omega)), if_pos (h n (by omega))]
theorem cnt_all_iff {n : Nat} : cnt c n = n ↔ ∀ i, i < n → isRep c i = true := by
  constructor
  · intro h
    induction n with
    | zero => intro i hi; omega
    | succ n ih =>
      rw [cnt_succ] at h
      have hle := cnt_le (c := c) n
      by_cases hr : isRep c n = true
      · rw [if_pos hr] at h
        intro i hi
        by_cases e : i = n
        · subst e; exact hr
        · exact ih (by omega) i (by omega)
      · rw [if_neg hr] at h; omega
  · exact cnt_all

/-- The list of the components' numbers. -/
def compL (n : Nat) (c : List Int) : List Int := (List.range n).map fun i => (comp c i : Int)
theorem compL_len : (compL n c).length = n := by simp [compL]
theorem compL_getD {i : Nat} (hi : i < n) : (compL n c).getD i 0 = (comp c i : Int) := by
  unfold compL
  rw [List.getD_eq_getElem?_getD, List.getElem?_map, List.getElem?_range hi]; rfl
/-- The order of the components. -/
def ordC (n : Nat) (c : List Int) : List Int := mkRel (cnt c n) fun x y => anyB n fun i => anyB n fun j => rel c i j && (decide (comp c i = x) && decide (comp c j = y))
theorem Pre.ord_rel (h : Pre n c) (hn : n ≤ 64) {i j : Nat} (hi : i < n) (hj : j < n) : rel (ordC n c) (comp c i) (comp c j) = rel c i j := by
  unfold ordC
  rw [mkRel_rel' (by have := cnt_le (c := c) n; omega) _ (h.comp_lt hi) (h.comp_lt hj)]
  apply bool_eq
  rw [anyB_iff]
  constructor
  · rintro ⟨i', hi', h1⟩
    obtain ⟨j', hj', h2⟩ := anyB_iff.mp h1
    simp at h2
    obtain ⟨h3, h4, h5⟩ := h2
    have e1 := (h.comp_eq_iff hi' hi).mp h4
    have e2 := (h.comp_eq_iff hj' hj).mp h5
    exact h.trans i i' j (eqv_iff.mp e1).2 (h.trans i' j' j h3 (eqv_iff.mp e2).1)
  · intro h1
    exact ⟨i, hi, anyB_iff.mpr ⟨j, hj, by rw [h1]; simp⟩⟩
theorem Pre.ord_is (_h : Pre n c) (hn : n ≤ 64) : IsRel (cnt c n) (ordC n c) := mkRel_is (by have := cnt_le (c := c) n; omega) _
end
end Go.Proofs.YtndpeoladndepaaDoor.CompC
