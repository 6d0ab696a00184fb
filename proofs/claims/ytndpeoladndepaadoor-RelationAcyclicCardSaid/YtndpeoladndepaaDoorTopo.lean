/- The least topological order, in plain Lean: again and again the least point to which no other point that is left is related; and that it ends with all points exactly if each component of the closure is a single point. Condition: a relation on at most 64 points. -/
import Derived.Test.YtndpeoladndepaaDoorCompC
namespace Go.Proofs.YtndpeoladndepaaDoor.Topo
set_option linter.all false
open Go Go.RowKit Go.Proofs.YtndpeoladndepaaDoorW.PrintWords Go.Proofs.YtndpeoladndepaaDoor.Bit64 Go.Proofs.YtndpeoladndepaaDoor.Base Go.Proofs.YtndpeoladndepaaDoor.Warsh Go.Proofs.YtndpeoladndepaaDoor.RelOps Go.Proofs.YtndpeoladndepaaDoor.CompC

/-- How many points below n a test lets in. -/
def cntF (q : Nat → Bool) (n : Nat) : Nat := ((List.range n).filter q).length
theorem cntF_zero (q : Nat → Bool) : cntF q 0 = 0 := rfl
theorem cntF_succ (q : Nat → Bool) (n : Nat) : cntF q (n + 1) = cntF q n + if q n = true then 1 else 0 := by
  unfold cntF
  rw [List.range_succ, List.filter_append, List.length_append]
  congr 1
  by_cases h : q n = true
  · rw [if_pos h, List.filter_cons, if_pos h]; rfl
  · rw [if_neg h, List.filter_cons, if_neg h]; rfl
theorem cntF_le {p q : Nat → Bool} (n : Nat) (h : ∀ i, i < n → p i = true → q i = true) : cntF p n ≤ cntF q n := by
  induction n with
  | zero => exact Nat.le_refl _
  | succ n ih =>
    have := ih (fun i hi => h i (by omega))
    rw [cntF_succ, cntF_succ]
    by_cases hp : p n = true
    · rw [if_pos hp, if_pos (h n (by omega) hp)]; omega
    · rw [if_neg hp]; omega
theorem cntF_lt {p q : Nat → Bool} {n x : Nat} (h : ∀ i, i < n → p i = true → q i = true) (hx : x < n) (hq : q x = true) (hp : ¬ p x = true) : cntF p n < cntF q n := by
  induction n with
  | zero => omega
  | succ n ih =>
    rw [cntF_succ, cntF_succ]
    by_cases e : x = n
    · subst e
      have := cntF_le x (fun i hi => h i (by omega))
      rw [if_neg hp, if_pos hq]; omega
    · have := ih (fun i hi => h i (by omega)) (by omega)
      by_cases hpn : p n = true
      · rw [if_pos hpn, if_pos (h n (by omega) hpn)]; omega
      · rw [if_neg hpn]; omega
theorem cntF_congr {p q : Nat → Bool} (n : Nat) (h : ∀ i, i < n → p i = q i) : cntF p n = cntF q n :=
  Nat.le_antisymm (cntF_le n (fun i hi hp => by rw [← h i hi]; exact hp)) (cntF_le n (fun i hi hp => by rw [h i hi]; exact hp))
theorem cntF_remove {p : Nat → Bool} {n j : Nat} (hj : j < n) (hp : p j = true) : cntF (fun x => p x && decide (x ≠ j)) n + 1 = cntF p n := by
  induction n with
  | zero => omega
  | succ n ih =>
    rw [cntF_succ, cntF_succ]
    by_cases e : j = n
    · subst e
      have : cntF (fun x => p x && decide (x ≠ j)) j = cntF p j := cntF_congr j (fun i hi => by
        have : decide (i ≠ j) = true := decide_eq_true (by omega)
        rw [this, Bool.and_true])
      rw [this, if_pos hp]
      simp
    · have := ih (by omega)
      have hd : decide (n ≠ j) = true := decide_eq_true (by omega)
      rw [hd, Bool.and_true]; omega
theorem cntF_pos {p : Nat → Bool} {n : Nat} (h : 0 < cntF p n) : ∃ j, j < n ∧ p j = true := by
  induction n with
  | zero => rw [cntF_zero] at h; omega
  | succ n ih =>
    rw [cntF_succ] at h
    by_cases hp : p n = true
    · exact ⟨n, by omega, hp⟩
    · rw [if_neg hp] at h
      obtain ⟨j, hj, h⟩ := ih (by omega)
      exact ⟨j, by omega, h⟩
theorem cntF_none {p : Nat → Bool} {n : Nat} (h : cntF p n = 0) : ∀ j, j < n → p j = false := by
  intro j hj
  cases hp : p j with
  | false => rfl
  | true => have := cntF_remove hj hp; omega

/-- Is a point left, and every other point that is left not related to it? -/
def free (n : Nat) (r : List Int) (out : List Nat) (j : Nat) : Bool := !(out.contains j) && !(anyB n fun i => rel r i j && (!(out.contains i) && decide (i ≠ j)))
/-- The points that are left. -/
def lft (out : List Nat) (j : Nat) : Bool := !(out.contains j)
/-- The order from a state on, for as many points as are left. -/
def topoS (n : Nat) (r : List Int) : Nat → List Nat → List Nat × Bool
  | 0, out => (out, true)
  | d + 1, out => match (List.range n).find? (free n r out) with
    | none => ([], false)
    | some j => topoS n r d (out ++ [j])
theorem lft_append (out : List Nat) (j x : Nat) : lft (out ++ [j]) x = (lft out x && decide (x ≠ j)) := by
  unfold lft
  apply bool_eq
  simp [not_or]
theorem free_lft {n : Nat} {r : List Int} {out : List Nat} {j : Nat} (h : free n r out j = true) : lft out j = true := by
  unfold free at h; unfold lft; simp at h ⊢; exact h.1
theorem cntF_step {n : Nat} {out : List Nat} {j : Nat} (hj : j < n) (h : lft out j = true) : cntF (lft (out ++ [j])) n + 1 = cntF (lft out) n := by
  rw [← cntF_remove hj h]
  congr 1
  exact cntF_congr n (fun i _ => lft_append out j i)

theorem topo_down {n d : Nat} {r c : List Int} (hr : Clos r c) (hn : r.length = n) : ∀ (out : List Nat), cntF (lft out) n = d → (∀ x ∈ out, x < n) →
    (∀ x y, x ∈ out → rel r y x = true → y ∈ out) → (∀ x ∈ out, ∀ y, eqv c x y = true → y = x) →
    (topoS n r d out).2 = true → ∀ i, i < n → ∀ y, eqv c i y = true → y = i := by
  induction d with
  | zero =>
    intro out hd _ _ h2 _ i hi y hy
    have := cntF_none hd i hi
    unfold lft at this
    simp at this
    exact h2 i this y hy
  | succ d ih =>
    intro out hd h0 h1 h2 ht
    unfold topoS at ht
    split at ht
    · cases ht
    · rename_i j hf
      have hjn : j < n := List.mem_range.mp (List.mem_of_find?_eq_some hf)
      have hfree := List.find?_some hf
      have hlj := free_lft hfree
      have hjo : j ∉ out := by unfold lft at hlj; simpa using hlj
      have h1' : ∀ x y, x ∈ out ++ [j] → rel r y x = true → y ∈ out ++ [j] := by
        intro x y hx hyx
        rw [List.mem_append, List.mem_singleton] at hx ⊢
        rcases hx with hx | rfl
        · exact .inl (h1 x y hx hyx)
        · by_cases e : y = x
          · exact .inr e
          · left
            apply Classical.byContradiction
            intro hy
            unfold free at hfree
            rw [Bool.and_eq_true] at hfree
            have hb := hfree.2
            have hyn := (hr.sub y x hyx)
            have hyl := (hr.isrel.lt hyn).1
            have : anyB n (fun i => rel r i x && (!(out.contains i) && decide (i ≠ x))) = true :=
              anyB_iff.mpr ⟨y, by omega, by rw [hyx]; simp [hy, e]⟩
            rw [this] at hb; cases hb
      have down : ∀ (L : List Nat), (∀ x y, x ∈ L → rel r y x = true → y ∈ L) → ∀ x y, x ∈ L → rel c y x = true → y ∈ L := by
        intro L hL x y hx hyx
        exact hr.least (fun y z => z ∈ L → y ∈ L) (fun _ _ h => h) (fun y z h hz => hL z y hz h) (fun a b e h3 h4 h5 => h3 (h4 h5)) y x hyx hx
      refine ih (out ++ [j]) (by have := cntF_step hjn hlj; omega) ?_ h1' ?_ ht
      · intro x hx
        rw [List.mem_append, List.mem_singleton] at hx
        rcases hx with hx | rfl
        · exact h0 x hx
        · exact hjn
      · intro x hx y hxy
        rw [List.mem_append, List.mem_singleton] at hx
        rcases hx with hx | rfl
        · exact h2 x hx y hxy
        · have hy : y ∈ out ++ [x] := down _ h1' x y (by simp) (eqv_iff.mp hxy).2
          rw [List.mem_append, List.mem_singleton] at hy
          rcases hy with hy | hy
          · exact absurd (down out h1 y x hy (eqv_iff.mp hxy).1) hjo
          · exact hy

theorem free_exists {n : Nat} {r c : List Int} (hr : Clos r c) (hn : r.length = n) (ha : ∀ i y, eqv c i y = true → y = i) (out : List Nat) : ∀ (m j : Nat), cntF (fun y => rel c y j) n ≤ m → j < n → lft out j = true → ∃ x, x < n ∧ free n r out x = true := by
  intro m
  induction m with
  | zero =>
    intro j h hj _
    have h0 : cntF (fun y => rel c y j) n = 0 := by omega
    have this : rel c j j = false := cntF_none h0 j hj
    rw [hr.refl j (by omega)] at this; cases this
  | succ m ih =>
    intro j h hj hl
    cases hf : free n r out j with
    | true => exact ⟨j, hj, hf⟩
    | false =>
      unfold free at hf
      have hb : anyB n (fun i => rel r i j && (!(out.contains i) && decide (i ≠ j))) = true := by
        unfold lft at hl
        rw [hl, Bool.true_and] at hf
        simpa using hf
      obtain ⟨i, hi, hq⟩ := anyB_iff.mp hb
      simp only [Bool.and_eq_true] at hq
      obtain ⟨q1, q2, q3⟩ := hq
      have hij := hr.sub i j q1
      refine ih i ?_ hi q2
      have : cntF (fun y => rel c y i) n < cntF (fun y => rel c y j) n :=
        cntF_lt (x := j) (fun y _ hy => hr.trans y i j hy hij) hj (hr.refl j (by omega)) (fun hji => by
          have := ha i j (eqv_iff.mpr ⟨hij, hji⟩)
          exact (of_decide_eq_true q3) this.symm)
      omega

theorem topo_up {n : Nat} {r c : List Int} (hr : Clos r c) (hn : r.length = n) (ha : ∀ i y, eqv c i y = true → y = i) : ∀ (d : Nat) (out : List Nat), cntF (lft out) n = d → (topoS n r d out).2 = true := by
  intro d
  induction d with
  | zero => intro out _; rfl
  | succ d ih =>
    intro out hd
    unfold topoS
    obtain ⟨j, hj, hl⟩ := cntF_pos (show 0 < cntF (lft out) n by omega)
    obtain ⟨x, hx, hf⟩ := free_exists hr hn ha out _ j (Nat.le_refl _) hj hl
    split
    · rename_i he
      rw [List.find?_eq_none] at he
      exact absurd hf (he x (List.mem_range.mpr hx))
    · rename_i y he
      have hy : y < n := List.mem_range.mp (List.mem_of_find?_eq_some he)
      have hfy := List.find?_some he
      exact ih _ (by have := cntF_step hy (free_lft hfy); omega)

theorem cntF_nil (n : Nat) : cntF (lft []) n = n := by
  induction n with
  | zero => rfl
  | succ n ih => rw [cntF_succ, ih]; rfl

/-- There is an order exactly if each component is a single point. -/
theorem topo_iff {n : Nat} {r c : List Int} (hr : Clos r c) (hn : r.length = n) : (topoS n r n []).2 = decide (cnt c n = n) := by
  have hp : Pre n c := by have := Pre.of_clos hr; rw [hn] at this; exact this
  apply bool_eq
  rw [decide_eq_true_eq, cnt_all_iff]
  constructor
  · intro h i hi
    have := topo_down hr hn [] (cntF_nil n) (fun x hx => by cases hx) (fun x y hx => by cases hx) (fun x hx => by cases hx) h i hi
    unfold isRep
    cases hb : anyB i (eqv c i) with
    | false => rfl
    | true =>
      obtain ⟨k, hk, e⟩ := anyB_iff.mp hb
      have := this k e
      omega
  · intro h
    apply topo_up hr hn _ n [] (cntF_nil n)
    intro i y hy
    obtain ⟨hi, hyn⟩ := hp.eqv_lt hy
    have e1 := h i hi
    have e2 := h y hyn
    apply Classical.byContradiction
    intro hne
    rcases Nat.lt_or_gt_of_ne hne with hlt | hlt
    · unfold isRep at e1
      have : anyB i (eqv c i) = true := anyB_iff.mpr ⟨y, hlt, hy⟩
      rw [this] at e1; cases e1
    · unfold isRep at e2
      have : anyB y (eqv c y) = true := anyB_iff.mpr ⟨i, hlt, eqv_symm hy⟩
      rw [this] at e2; cases e2
end Go.Proofs.YtndpeoladndepaaDoor.Topo
