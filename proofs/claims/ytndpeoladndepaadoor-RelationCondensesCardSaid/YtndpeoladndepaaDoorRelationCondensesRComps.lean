/- What the program numbers the components with: the numbers by their least points. Condition: a valid list of 64-bit numbers (no list else). -/
import Derived.Test.YtndpeoladndepaaDoorRelationCondensesRClos
import Derived.Test.YtndpeoladndepaaDoorCompC
import Derived.Test.YtndpeoladndepaaDoorPRelationCondensesx6
namespace Go.Proofs.YtndpeoladndepaaDoor.RelationCondensesRComps
set_option linter.all false
open Go Go.RowKit Go.Proofs.YtndpeoladndepaaDoor.PRelationCondenses Go.Proofs.YtndpeoladndepaaDoorW.PrintWords Go.Proofs.YtndpeoladndepaaDoorW.PrintLast Go.Proofs.YtndpeoladndepaaDoor.Bit64 Go.Proofs.YtndpeoladndepaaDoor.Base Go.Proofs.YtndpeoladndepaaDoor.Warsh Go.Proofs.YtndpeoladndepaaDoor.Ctz Go.Proofs.YtndpeoladndepaaDoor.RelOps Go.Proofs.YtndpeoladndepaaDoor.RelationCondensesRValid Go.Proofs.YtndpeoladndepaaDoor.RelationCondensesRClos Go.Proofs.YtndpeoladndepaaDoor.CompC
theorem rd_nat' (c : List Int) (i : Nat) : rd c (i : Int) = c.getD i 0 := by unfold rd; rw [Int.toNat_natCast]
def cstep (c : List Int) (i : Nat) (num : Int) (j : Nat) (out : List Int) : List Int := if eqv c i j = true then out.set j num else out
theorem cstep_len (c : List Int) (i : Nat) (num : Int) (j : Nat) (out : List Int) : (cstep c i num j out).length = out.length := by
  unfold cstep; split <;> simp
theorem iter_len' {f : Nat → List Int → List Int} (h : ∀ i c, (f i c).length = c.length) : ∀ (d i : Nat) (c : List Int), (iter f d i c).length = c.length := by
  intro d
  induction d with
  | zero => intro i c; rfl
  | succ d ih => intro i c; rw [iter_succ, ih, h]
theorem cs_l2 (c : List Int) (n i num : Nat) (hn : n ≤ 64) (hi : i < n) (hc : IsRel n c) (hnum : num ≤ i) : ∀ (d j k : Nat) (out : List Int), j + d = n → out.length = n →
    relation_Components.l2 (d + 1 + k) c out (num : Int) (i : Int) (j : Int) (n : Int) (i : Int) = relation_Components.l1 k c (iter (cstep c i num) d j out) (((num + 1 : Nat)) : Int) (n : Int) (((i + 1 : Nat)) : Int) := by
  have hl := hc.len
  intro d
  induction d with
  | zero =>
    intro j k out h ho
    rw [show 0 + 1 + k = k + 1 by omega]
    simp only [relation_Components.l2]
    rw [if_neg (by omega), wrap64_succ (by omega), wrap64_succ (by omega)]; rfl
  | succ d ih =>
    intro j k out h ho
    rw [show d + 1 + 1 + k = (d + 1 + k) + 1 by omega]
    simp only [relation_Components.l2]
    rw [if_pos (by omega), if_pos (by omega), if_pos (by omega), wrap_idx (by omega) (by omega), if_pos (by omega), rd_nat', bit_at (hc.u.getD i) (by omega) (by omega), Int.toNat_natCast, iter_succ, wrap64_succ (by omega), rd_nat']
    by_cases h1 : tb (c.getD i 0) j = true
    · rw [if_pos h1, if_pos rfl, if_pos (by omega), if_pos (by omega), wrap_idx (by omega) (by omega), if_pos (by omega), bit_at (hc.u.getD j) (by omega) (by omega), Int.toNat_natCast]
      by_cases h2 : tb (c.getD j 0) i = true
      · rw [if_pos h2, if_pos rfl, ih (j + 1) k _ (by omega) (by simp; exact ho)]
        have e : eqv c i j = true := eqv_iff.mpr ⟨h1, h2⟩
        unfold cstep; rw [if_pos e]
      · rw [if_neg h2, if_neg (by decide), ih (j + 1) k _ (by omega) ho]
        have e : ¬ eqv c i j = true := fun e => h2 (eqv_iff.mp e).2
        unfold cstep; rw [if_neg e]
    · rw [if_neg h1, if_neg (by decide), ih (j + 1) k _ (by omega) ho]
      have e : ¬ eqv c i j = true := fun e => h1 (eqv_iff.mp e).1
      unfold cstep; rw [if_neg e]

def ostep (c : List Int) (n i : Nat) (s : List Int × Nat) : List Int × Nat := if s.1.getD i 0 ≥ 0 then s else (iter (cstep c i s.2) (n - i) i s.1, s.2 + 1)
theorem cs_l1 (c : List Int) (n : Nat) (hn : n ≤ 64) (hc : IsRel n c) : ∀ (e i k : Nat) (out : List Int) (num : Nat), i + e = n → out.length = n → num ≤ i →
    relation_Components.l1 (e * (n + 2) + 1 + k) c out (num : Int) (n : Int) (i : Int) = some (iter (ostep c n) e i (out, num)).1 := by
  intro e
  induction e with
  | zero =>
    intro i k out num h ho hnum
    rw [show 0 * (n + 2) + 1 + k = k + 1 by omega]
    simp only [relation_Components.l1]
    rw [if_neg (by omega)]; rfl
  | succ e ih =>
    intro i k out num h ho hnum
    have hi : i < n := by omega
    rw [show (e + 1) * (n + 2) + 1 + k = (e * (n + 2) + 1 + (n + 1 + k)) + 1 + 1 - 1 by rw [Nat.add_mul]; omega]
    rw [show (e * (n + 2) + 1 + (n + 1 + k)) + 1 + 1 - 1 = (e * (n + 2) + 1 + (n + 1 + k)) + 1 by omega]
    simp only [relation_Components.l1]
    rw [if_pos (by omega), if_pos (by omega), if_pos (by omega), rd_nat', iter_succ]
    by_cases hb : out.getD i 0 ≥ 0
    · rw [if_pos hb, wrap64_succ (by omega), ih (i + 1) (n + 1 + k) out num (by omega) ho (by omega)]
      unfold ostep; rw [if_pos hb]
    · rw [if_neg hb]
      have := cs_l2 c n i num hn hi hc hnum (n - i) i (e * (n + 2) + 1 + (i + k)) out (by omega) ho
      rw [show n - i + 1 + (e * (n + 2) + 1 + (i + k)) = e * (n + 2) + 1 + (n + 1 + k) by omega] at this
      rw [this, ih (i + 1) (i + k) _ (num + 1) (by omega) (by rw [iter_len' (cstep_len c i num), ho]) (by omega)]
      unfold ostep
      simp only
      rw [if_neg hb]

def fillM (i : Nat) (c : List Int) : List Int := c.set i (-1)
theorem cs_l0 (c : List Int) (n : Nat) (hn : n ≤ 64) : ∀ (d i k : Nat) (out : List Int), i + d = n → out.length = n →
    relation_Components.l0 (d + 1 + k) c out (n : Int) (i : Int) = relation_Components.l1 k c (iter fillM d i out) 0 (n : Int) 0 := by
  intro d
  induction d with
  | zero =>
    intro i k out h ho
    rw [show 0 + 1 + k = k + 1 by omega]
    simp only [relation_Components.l0]
    rw [if_neg (by omega), ho]; rfl
  | succ d ih =>
    intro i k out h ho
    rw [show d + 1 + 1 + k = (d + 1 + k) + 1 by omega]
    simp only [relation_Components.l0]
    rw [if_pos (by omega), if_pos (by omega), if_pos (by omega), Int.toNat_natCast, wrap64_succ (by omega), iter_succ]
    exact ih (i + 1) k _ (by omega) (by simp; exact ho)

theorem cstep_all (c : List Int) (n i : Nat) (num : Int) (hi : i ≤ n) (out : List Int) (ho : out.length = n) (x : Nat) (hx : x < n) :
    (iter (cstep c i num) (n - i) i out).getD x 0 = if i ≤ x ∧ eqv c i x = true then num else out.getD x 0 := by
  have H := iter_inv (f := cstep c i num) (n := n)
    (fun m a => i ≤ m ∧ a.length = n ∧ ∀ x, x < n → a.getD x 0 = if (i ≤ x ∧ x < m) ∧ eqv c i x = true then num else out.getD x 0)
    (fun m a hm ⟨h0, h1, h2⟩ => by
      refine ⟨by omega, by rw [cstep_len, h1], fun x hx => ?_⟩
      unfold cstep
      by_cases e : eqv c i m = true
      · rw [if_pos e, getD_set _ _ _ _ (by omega)]
        by_cases ex : m = x
        · subst ex
          rw [if_pos rfl, if_pos ⟨⟨h0, by omega⟩, e⟩]
        · rw [if_neg ex, h2 x hx]
          by_cases q : (i ≤ x ∧ x < m) ∧ eqv c i x = true
          · rw [if_pos q, if_pos ⟨⟨q.1.1, by omega⟩, q.2⟩]
          · rw [if_neg q, if_neg (fun h => q ⟨⟨h.1.1, by omega⟩, h.2⟩)]
      · rw [if_neg e, h2 x hx]
        by_cases q : (i ≤ x ∧ x < m) ∧ eqv c i x = true
        · rw [if_pos q, if_pos ⟨⟨q.1.1, by omega⟩, q.2⟩]
        · rw [if_neg q, if_neg (fun h => by
            by_cases ex : x = m
            · subst ex; exact e h.2
            · exact q ⟨⟨h.1.1, by omega⟩, h.2⟩)])
    (n - i) i out (by omega) ⟨Nat.le_refl _, ho, fun x _ => by rw [if_neg (fun h => by omega)]⟩
  rw [H.2.2 x hx]
  by_cases q : i ≤ x ∧ eqv c i x = true
  · rw [if_pos ⟨⟨q.1, hx⟩, q.2⟩, if_pos q]
  · rw [if_neg (fun h => q ⟨h.1.1, h.2⟩), if_neg q]

theorem ostep_all (c : List Int) (n : Nat) (h : Pre n c) (out : List Int) (ho : out.length = n) (hm : ∀ x, x < n → out.getD x 0 = -1) :
    (iter (ostep c n) n 0 (out, 0)).1 = compL n c := by
  have H := iter_inv (f := ostep c n) (n := n)
    (fun i s => s.1.length = n ∧ s.2 = cnt c i ∧ ∀ x, x < n → s.1.getD x 0 = if rep c x < i then (comp c x : Int) else -1)
    (fun i s hi ⟨h1, h2, h3⟩ => by
      have hri := h.rep_spec hi
      unfold ostep
      by_cases q : s.1.getD i 0 ≥ 0
      · rw [if_pos q]
        rw [h3 i hi] at q
        have hr : rep c i < i := by
          apply Classical.byContradiction; intro hn; rw [if_neg hn] at q; omega
        have hnr : ¬ isRep c i = true := fun e => by have := (h.rep_lt_iff hi).mpr e; omega
        refine ⟨h1, by rw [cnt_succ, if_neg hnr, h2]; rfl, fun x hx => ?_⟩
        rw [h3 x hx]
        by_cases hx1 : rep c x < i
        · rw [if_pos hx1, if_pos (by omega)]
        · by_cases hx2 : rep c x = i
          · have := h.rep_isRep hx
            rw [hx2] at this
            exact absurd this hnr
          · rw [if_neg hx1, if_neg (by omega)]
      · rw [if_neg q]
        rw [h3 i hi] at q
        have hr : ¬ rep c i < i := by
          intro hr; rw [if_pos hr] at q; omega
        have hri' : rep c i = i := by omega
        have hrep := (h.rep_lt_iff hi).mp hri'
        refine ⟨by rw [iter_len' (cstep_len c i _), h1], by rw [cnt_succ, if_pos hrep, h2], fun x hx => ?_⟩
        show (iter (cstep c i (s.2 : Int)) (n - i) i s.1).getD x 0 = _
        rw [cstep_all c n i _ (by omega) s.1 h1 x hx, h3 x hx]
        by_cases e : eqv c i x = true
        · have hrx : rep c x = i := by rw [← h.rep_eq e, hri']
          have hxi : i ≤ x := by have := (h.rep_spec hx).1; omega
          rw [if_pos ⟨hxi, e⟩, if_pos (by omega)]
          unfold comp
          rw [hrx, h2]
        · rw [if_neg (fun z => e z.2)]
          have hne : rep c x ≠ i := fun z => e (h.eqv_of_rep hi hx (by rw [hri', z]))
          by_cases hx1 : rep c x < i
          · rw [if_pos hx1, if_pos (by omega)]
          · rw [if_neg hx1, if_neg (by omega)])
    n 0 (out, 0) (by omega) ⟨ho, rfl, fun x hx => by rw [if_neg (by omega)]; exact hm x hx⟩
  apply ext_rows (by rw [H.1, compL_len])
  intro i hi
  rw [H.1] at hi
  rw [H.2.2 i hi, compL_getD hi, if_pos (by have := (h.rep_spec hi).1; omega)]

theorem fillM_all (n : Nat) (out : List Int) (ho : out.length = n) : (iter fillM n 0 out).length = n ∧ ∀ x, x < n → (iter fillM n 0 out).getD x 0 = -1 := by
  have H := iter_inv (f := fillM) (n := n)
    (fun i a => a.length = n ∧ ∀ j, j < i → a.getD j 0 = -1)
    (fun i a hi ⟨h1, h2⟩ => ⟨by unfold fillM; simp; exact h1, fun j hj => by
      unfold fillM
      rw [getD_set _ _ _ _ (by omega)]
      by_cases e : i = j
      · subst e; rw [if_pos rfl]
      · rw [if_neg e]; exact h2 j (by omega)⟩)
    n 0 out (by omega) ⟨ho, fun j hj => by omega⟩
  exact H

theorem isRel_of {l : List Int} (hu : AllU l) (hv : vb l = true) : IsRel l.length l := ⟨rfl, hu, fun i j hj => (lt_pow_iff (hu.getD i)).mp (vb_row hv i) j hj⟩
theorem pre_of {l : List Int} (hu : AllU l) (hv : vb l = true) : Pre l.length (closC l) := Pre.of_clos (clos_spec (isRel_of hu hv) (vb_len hv))

theorem comps_eq (l : List Int) (hu : AllU l) (hv : vb l = true) (K : Nat) (hK : big ≤ K) : relation_Components.f K l = some (compL l.length (closC l)) := by
  have hn := vb_len hv
  have hs := sq hn
  have hp := pre_of hu hv
  have hK' := hK
  unfold big at hK'
  unfold relation_Components.f
  rw [valid_eq l hu K (by omega), hv]
  rw [Option.bind_some]
  rw [if_pos rfl, clos_eq l hu hv K hK]
  rw [Option.bind_some]
  rw [if_pos (by omega), if_pos (by omega), Int.toNat_natCast, Option.bind_some, List.length_replicate]
  obtain ⟨k, rfl⟩ : ∃ k, K = l.length + 1 + (l.length * (l.length + 2) + 1 + k) := ⟨K - (l.length + 1 + (l.length * (l.length + 2) + 1)), by omega⟩
  have h0 := cs_l0 (closC l) l.length hn l.length 0 (l.length * (l.length + 2) + 1 + k) (List.replicate l.length 0) (by omega) (by simp)
  rw [show ((0 : Nat) : Int) = 0 from rfl] at h0
  obtain ⟨f1, f2⟩ := fillM_all l.length (List.replicate l.length 0) (by simp)
  have h1 := cs_l1 (closC l) l.length hn hp.isrel l.length 0 k _ 0 (by omega) f1 (by omega)
  rw [show ((0 : Nat) : Int) = 0 from rfl] at h1
  rw [h0, h1, ostep_all (closC l) l.length hp _ f1 f2]
theorem comps_bad (l : List Int) (hu : AllU l) (hv : vb l = false) (K : Nat) (hK : big ≤ K) : relation_Components.f K l = some [] := by
  unfold big at hK
  unfold relation_Components.f
  rw [valid_eq l hu K (by omega), hv]
  rw [Option.bind_some]
  rw [if_neg (by decide)]
end Go.Proofs.YtndpeoladndepaaDoor.RelationCondensesRComps
