/- Relations made of a test, in plain Lean: the relation whose pairs are those that a test lets in, and when two relations are equal. Condition: at most 64 points. -/
import Derived.Test.YtndpeoladndepaaDoorWarsh
import Derived.Test.YtndpeoladndepaaDoorCtz
namespace Go.Proofs.YtndpeoladndepaaDoor.RelOps
set_option linter.all false
open Go Go.RowKit Go.Proofs.YtndpeoladndepaaDoorW.PrintWords Go.Proofs.YtndpeoladndepaaDoor.Bit64 Go.Proofs.YtndpeoladndepaaDoor.Base Go.Proofs.YtndpeoladndepaaDoor.Warsh Go.Proofs.YtndpeoladndepaaDoor.Ctz

/-- The number whose bits below n are those that a test lets in. -/
def rowOf (n : Nat) (q : Nat → Bool) : Int := iter (fun j x => if q j = true then Go.bits .or .u64 x (shl .u64 1 (j : Int)) else x) n 0 0
theorem rowOf_spec (n : Nat) (q : Nat → Bool) (hn : n ≤ 64) : U (rowOf n q) ∧ ∀ j, tb (rowOf n q) j = (decide (j < n) && q j) := by
  have H := iter_inv (f := fun j x => if q j = true then Go.bits .or .u64 x (shl .u64 1 (j : Int)) else x) (n := n)
    (fun i x => U x ∧ ∀ j, tb x j = (decide (j < i) && q j))
    (fun i x hi ⟨h1, h2⟩ => by
      have hs := U_shl (n := (i : Int)) (by omega) (by omega)
      by_cases hq : q i = true
      · rw [if_pos hq]
        refine ⟨U_or h1 hs, fun j => ?_⟩
        rw [tb_or h1 hs, h2 j, tb_shl (by omega) (by omega), Int.toNat_natCast]
        by_cases e : j = i
        · subst e; simp [hq]
        · have : decide (j < i + 1) = decide (j < i) := by
            by_cases h : j < i
            · rw [decide_eq_true h, decide_eq_true (by omega)]
            · rw [decide_eq_false h, decide_eq_false (by omega)]
          rw [this, decide_eq_false e, Bool.or_false]
      · rw [if_neg hq]
        refine ⟨h1, fun j => ?_⟩
        rw [h2 j]
        by_cases e : j = i
        · subst e
          have : q j = false := by simpa using hq
          rw [this]; simp
        · have : decide (j < i + 1) = decide (j < i) := by
            by_cases h : j < i
            · rw [decide_eq_true h, decide_eq_true (by omega)]
            · rw [decide_eq_false h, decide_eq_false (by omega)]
          rw [this])
    n 0 0 (by omega) ⟨U_zero, fun j => by rw [tb_zero]; simp⟩
  exact H

/-- The relation on n points whose pairs are those that a test lets in. -/
def mkRel (n : Nat) (p : Nat → Nat → Bool) : List Int := (List.range n).map fun i => rowOf n (p i)
theorem mkRel_len (n : Nat) (p : Nat → Nat → Bool) : (mkRel n p).length = n := by simp [mkRel]
theorem mkRel_getD (n : Nat) (p : Nat → Nat → Bool) {i : Nat} (hi : i < n) : (mkRel n p).getD i 0 = rowOf n (p i) := by
  unfold mkRel
  rw [List.getD_eq_getElem?_getD, List.getElem?_map, List.getElem?_range hi]; rfl
theorem mkRel_rel {n : Nat} (hn : n ≤ 64) (p : Nat → Nat → Bool) {i : Nat} (hi : i < n) (j : Nat) : rel (mkRel n p) i j = (decide (j < n) && p i j) := by
  unfold rel
  rw [mkRel_getD n p hi, (rowOf_spec n (p i) hn).2 j]
theorem mkRel_u {n : Nat} (hn : n ≤ 64) (p : Nat → Nat → Bool) : AllU (mkRel n p) := by
  intro x hx
  unfold mkRel at hx
  obtain ⟨i, _, rfl⟩ := List.mem_map.mp hx
  exact (rowOf_spec n (p i) hn).1
theorem mkRel_is {n : Nat} (hn : n ≤ 64) (p : Nat → Nat → Bool) : IsRel n (mkRel n p) := by
  refine ⟨mkRel_len n p, mkRel_u hn p, fun i j hj => ?_⟩
  by_cases hi : i < n
  · rw [mkRel_rel hn p hi]; simp; omega
  · unfold rel; rw [List.getD_eq_getElem?_getD, List.getElem?_eq_none (by rw [mkRel_len]; omega)]; exact tb_zero j
theorem mkRel_of {n : Nat} (hn : n ≤ 64) {c : List Int} (hl : c.length = n) (hu : AllU c) (p : Nat → Nat → Bool) (h : ∀ i, i < n → ∀ j, rel c i j = (decide (j < n) && p i j)) : c = mkRel n p := by
  apply ext_rows (by rw [hl, mkRel_len])
  intro i hi
  rw [hl] at hi
  apply Bit64.ext (hu.getD i) ((mkRel_u hn p).getD i)
  intro j _
  have h1 := h i hi j
  have h2 := mkRel_rel hn p hi j
  unfold rel at h1 h2
  rw [h1, h2]
theorem mkRel_congr {n : Nat} {p q : Nat → Nat → Bool} (h : ∀ i j, i < n → j < n → p i j = q i j) (hn : n ≤ 64) : mkRel n p = mkRel n q := by
  apply mkRel_of hn (mkRel_len n p) (mkRel_u hn p)
  intro i hi j
  rw [mkRel_rel hn p hi]
  by_cases hj : j < n
  · rw [h i j hi hj]
  · simp [hj]
theorem mkRel_self {n : Nat} (hn : n ≤ 64) {c : List Int} (h : IsRel n c) : mkRel n (rel c) = c := by
  apply Eq.symm
  apply mkRel_of hn h.len h.u
  intro i _ j
  by_cases hj : j < n
  · simp [hj]
  · rw [h.out i j (by omega)]; simp
/-- A pair of a made relation. -/
theorem mkRel_rel' {n : Nat} (hn : n ≤ 64) (p : Nat → Nat → Bool) {i j : Nat} (hi : i < n) (hj : j < n) : rel (mkRel n p) i j = p i j := by
  rw [mkRel_rel hn p hi, decide_eq_true hj, Bool.true_and]

/-- Some point below n that a test lets in. -/
def anyB (n : Nat) (q : Nat → Bool) : Bool := (List.range n).any q
theorem anyB_iff {n : Nat} {q : Nat → Bool} : anyB n q = true ↔ ∃ i, i < n ∧ q i = true := by
  unfold anyB
  rw [List.any_eq_true]
  constructor
  · rintro ⟨i, hi, h⟩; exact ⟨i, List.mem_range.mp hi, h⟩
  · rintro ⟨i, hi, h⟩; exact ⟨i, List.mem_range.mpr hi, h⟩
theorem bool_eq {a b : Bool} (h : a = true ↔ b = true) : a = b := by
  cases a <;> cases b <;> simp_all
theorem anyB_congr {n : Nat} {q r : Nat → Bool} (h : ∀ i, i < n → q i = r i) : anyB n q = anyB n r := by
  apply bool_eq
  rw [anyB_iff, anyB_iff]
  constructor
  · rintro ⟨i, hi, hq⟩; exact ⟨i, hi, by rw [← h i hi]; exact hq⟩
  · rintro ⟨i, hi, hq⟩; exact ⟨i, hi, by rw [h i hi]; exact hq⟩

/-- The product. -/
def compC (n : Nat) (a b : List Int) : List Int := mkRel n fun i j => anyB n fun k => rel a i k && rel b k j
def unionC (n : Nat) (a b : List Int) : List Int := mkRel n fun i j => rel a i j || rel b i j
def meetC (n : Nat) (a b : List Int) : List Int := mkRel n fun i j => rel a i j && rel b i j
def transC (n : Nat) (a : List Int) : List Int := mkRel n fun i j => rel a j i
def idC (n : Nat) : List Int := mkRel n fun i j => decide (i = j)

/-- The union of the rows of a set. -/
def fold (r : List Int) (o : Int) (j : Nat) : Int := Go.bits .or .u64 o (r.getD j 0)
theorem fold_spec {r : List Int} (hu : AllU r) : ∀ (l : List Nat) (o : Int), U o → U (l.foldl (fold r) o) ∧ ∀ j, tb (l.foldl (fold r) o) j = (tb o j || l.any fun i => rel r i j) := by
  intro l
  induction l with
  | nil => intro o ho; exact ⟨ho, fun j => by simp⟩
  | cons x l ih =>
    intro o ho
    have h1 : U (fold r o x) := U_or ho (hu.getD x)
    obtain ⟨g1, g2⟩ := ih (fold r o x) h1
    refine ⟨g1, fun j => ?_⟩
    rw [List.foldl_cons, g2 j, List.any_cons]
    unfold fold
    rw [tb_or ho (hu.getD x), Bool.or_assoc]; rfl
/-- The image of a set. -/
def imgC (r : List Int) (s : Int) : Int := rowOf 64 fun j => anyB r.length fun i => tb s i && rel r i j
theorem imgC_u (r : List Int) (s : Int) : U (imgC r s) := (rowOf_spec 64 _ (by omega)).1
theorem imgC_tb (r : List Int) (s : Int) {j : Nat} (hj : j < 64) : tb (imgC r s) j = anyB r.length fun i => tb s i && rel r i j := by
  unfold imgC
  rw [(rowOf_spec 64 _ (by omega)).2 j, decide_eq_true hj, Bool.true_and]
theorem imgC_of {r : List Int} {s x : Int} (hx : U x) (h : ∀ j, j < 64 → tb x j = anyB r.length fun i => tb s i && rel r i j) : x = imgC r s :=
  Bit64.ext hx (imgC_u r s) (fun j hj => by rw [h j hj, imgC_tb r s hj])
/-- A list that is filled from the front. -/
def fillV (v : Nat → Int) (i : Nat) (c : List Int) : List Int := c.set i (v i)
theorem fillV_all (v : Nat → Int) (n : Nat) (c : List Int) (hl : c.length = n) : iter (fillV v) n 0 c = (List.range n).map v := by
  have H := iter_inv (f := fillV v) (n := n)
    (fun i a => a.length = n ∧ ∀ j, j < i → a.getD j 0 = v j)
    (fun i a hi ⟨h1, h2⟩ => ⟨by unfold fillV; simp; exact h1, fun j hj => by
      unfold fillV
      rw [getD_set _ _ _ _ (by omega)]
      by_cases e : i = j
      · subst e; rw [if_pos rfl]
      · rw [if_neg e]; exact h2 j (by omega)⟩)
    n 0 c (by omega) ⟨hl, fun j hj => by omega⟩
  apply ext_rows (by rw [H.1]; simp)
  intro i hi
  rw [H.1] at hi
  rw [H.2 i hi, List.getD_eq_getElem?_getD, List.getElem?_map, List.getElem?_range hi]; rfl
/-- A list of numbers that a test tells bit by bit. -/
theorem mkRel_map {n : Nat} (hn : n ≤ 64) {v : Nat → Int} {p : Nat → Nat → Bool} (hv : ∀ i, i < n → U (v i)) (h : ∀ i, i < n → ∀ j, j < 64 → tb (v i) j = (decide (j < n) && p i j)) : (List.range n).map v = mkRel n p := by
  apply ext_rows (by simp [mkRel])
  intro i hi
  have hi' : i < n := by simpa using hi
  rw [mkRel_getD n p hi', List.getD_eq_getElem?_getD, List.getElem?_map, List.getElem?_range hi']
  exact Bit64.ext (hv i hi') (rowOf_spec n (p i) hn).1 (fun j hj => by
    have := h i hi' j hj
    rw [(rowOf_spec n (p i) hn).2 j]; exact this)
theorem anyB_zero (q : Nat → Bool) : anyB 0 q = false := rfl
theorem anyB_succ (n : Nat) (q : Nat → Bool) : anyB (n + 1) q = (anyB n q || q n) := by
  apply bool_eq
  rw [anyB_iff, Bool.or_eq_true, anyB_iff]
  constructor
  · rintro ⟨i, hi, h⟩
    by_cases e : i = n
    · subst e; exact .inr h
    · exact .inl ⟨i, by omega, h⟩
  · rintro (⟨i, hi, h⟩ | h)
    · exact ⟨i, by omega, h⟩
    · exact ⟨n, by omega, h⟩
theorem rel_replicate (n i j : Nat) : rel (List.replicate n 0) i j = false := by
  unfold rel
  rw [List.getD_eq_getElem?_getD, List.getElem?_replicate]
  by_cases h : i < n
  · rw [if_pos h]; exact tb_zero j
  · rw [if_neg h]; exact tb_zero j
/-- One bit more in one row. -/
def addB (i j : Nat) (c : List Int) : List Int := c.set i (Go.bits .or .u64 (c.getD i 0) (shl .u64 1 (j : Int)))
theorem addB_len (i j : Nat) (c : List Int) : (addB i j c).length = c.length := by simp [addB]
theorem addB_u {c : List Int} (h : AllU c) (i : Nat) {j : Nat} (hj : j < 64) : AllU (addB i j c) := h.set (U_or (h.getD i) (U_shl (by omega) (by omega))) i
theorem addB_rel {c : List Int} (h : AllU c) {i j : Nat} (hi : i < c.length) (hj : j < 64) (x y : Nat) : rel (addB i j c) x y = (rel c x y || (decide (x = i) && decide (y = j))) := by
  unfold rel addB
  rw [getD_set _ _ _ _ hi]
  by_cases e : i = x
  · subst e
    rw [if_pos rfl, tb_or (h.getD i) (U_shl (by omega) (by omega)), tb_shl (by omega) (by omega), Int.toNat_natCast]
    simp
  · rw [if_neg e, decide_eq_false (fun h => e h.symm)]; simp
end Go.Proofs.YtndpeoladndepaaDoor.RelOps
