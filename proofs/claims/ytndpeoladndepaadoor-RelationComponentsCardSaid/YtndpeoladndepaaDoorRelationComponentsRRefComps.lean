/- What the reference numbers the components with: the numbers by their least points. Condition: a valid list of 64-bit numbers. -/
import Derived.Test.YtndpeoladndepaaDoorRelationComponentsRRefClos
import Derived.Test.YtndpeoladndepaaDoorRelationComponentsRComps
import Derived.Test.YtndpeoladndepaaDoorPRelationComponentsx7
namespace Go.Proofs.YtndpeoladndepaaDoor.RelationComponentsRRefComps
set_option linter.all false
open Go Go.RowKit Go.Proofs.YtndpeoladndepaaDoor.PRelationComponents Go.Proofs.YtndpeoladndepaaDoorW.PrintWords Go.Proofs.YtndpeoladndepaaDoorW.PrintLast Go.Proofs.YtndpeoladndepaaDoorW.PrintMore Go.Proofs.YtndpeoladndepaaDoor.Bit64 Go.Proofs.YtndpeoladndepaaDoor.Base Go.Proofs.YtndpeoladndepaaDoor.Warsh Go.Proofs.YtndpeoladndepaaDoor.Ctz Go.Proofs.YtndpeoladndepaaDoor.RelOps Go.Proofs.YtndpeoladndepaaDoor.RelationComponentsRHas Go.Proofs.YtndpeoladndepaaDoor.RelationComponentsRValid Go.Proofs.YtndpeoladndepaaDoor.RelationComponentsRClos Go.Proofs.YtndpeoladndepaaDoor.RelationComponentsRRefClos Go.Proofs.YtndpeoladndepaaDoor.RelationComponentsRComps Go.Proofs.YtndpeoladndepaaDoor.CompC
def rj (c : List Int) (i j : Nat) (out : List Int) : List Int := if eqv c i j = true then out.set i (out.getD j 0) else out
theorem rj_len (c : List Int) (i j : Nat) (out : List Int) : (rj c i j out).length = out.length := by
  unfold rj; split <;> simp
theorem rc_l1 (c : List Int) (n i : Nat) (hn : n ≤ 64) (hi : i < n) (hc : IsRel n c) (next : Nat) (hnx : next ≤ 64) : ∀ (d j k : Nat) (out : List Int), j + d = i → out.length = n →
    semigroupref02_Components.l1 (d + 1 + k) c out (next : Int) (i : Int) (j : Int) (n : Int) (i : Int) =
      (if (iter (rj c i) d j out).getD i 0 < 0 then semigroupref02_Components.l0 k c ((iter (rj c i) d j out).set i (next : Int)) (((next + 1 : Nat)) : Int) (n : Int) (((i + 1 : Nat)) : Int) else semigroupref02_Components.l0 k c (iter (rj c i) d j out) (next : Int) (n : Int) (((i + 1 : Nat)) : Int)) := by
  have hl := hc.len
  intro d
  induction d with
  | zero =>
    intro j k out h ho
    rw [show 0 + 1 + k = k + 1 by omega]
    simp only [semigroupref02_Components.l1]
    rw [if_neg (by omega), if_pos (by omega), if_pos (by omega), rd_nat', wrap64_succ (by omega), wrap64_succ (by omega), Int.toNat_natCast]; rfl
  | succ d ih =>
    intro j k out h ho
    rw [show d + 1 + 1 + k = (d + 1 + k) + 1 by omega]
    simp only [semigroupref02_Components.l1]
    rw [if_pos (by omega), if_pos (by omega), if_pos (by omega), rd_nat', has_eq (hc.u.getD i) (by omega), Option.bind_some, iter_succ, wrap64_succ (by omega), rd_nat', rd_nat', Int.toNat_natCast]
    by_cases h1 : tb (c.getD i 0) j = true
    · rw [if_pos h1, if_pos (by omega), if_pos (by omega), has_eq (hc.u.getD j) (by omega), Option.bind_some]
      by_cases h2 : tb (c.getD j 0) i = true
      · have e : eqv c i j = true := eqv_iff.mpr ⟨h1, h2⟩
        rw [if_pos h2, if_pos (by omega), if_pos (by omega), ih (j + 1) k _ (by omega) (by simp; exact ho)]
        unfold rj; rw [if_pos e]
      · have e : ¬ eqv c i j = true := fun e => h2 (eqv_iff.mp e).2
        rw [if_neg h2, ih (j + 1) k _ (by omega) ho]
        unfold rj; rw [if_neg e]
    · have e : ¬ eqv c i j = true := fun e => h1 (eqv_iff.mp e).1
      rw [if_neg h1, ih (j + 1) k _ (by omega) ho]
      unfold rj; rw [if_neg e]
def rstep (c : List Int) (i : Nat) (s : List Int × Nat) : List Int × Nat :=
  if (iter (rj c i) i 0 (s.1.set i (-1))).getD i 0 < 0 then ((iter (rj c i) i 0 (s.1.set i (-1))).set i (s.2 : Int), s.2 + 1) else (iter (rj c i) i 0 (s.1.set i (-1)), s.2)
theorem rstep_len (c : List Int) (i : Nat) (s : List Int × Nat) : (rstep c i s).1.length = s.1.length ∧ (rstep c i s).2 ≤ s.2 + 1 := by
  unfold rstep
  split
  · simp [iter_len' (rj_len c i)]
  · simp [iter_len' (rj_len c i)]
theorem rc_l0 (c : List Int) (n : Nat) (hn : n ≤ 64) (hc : IsRel n c) : ∀ (e i k : Nat) (s : List Int × Nat), i + e = n → s.1.length = n → s.2 ≤ i →
    semigroupref02_Components.l0 (e * (n + 2) + 1 + k) c s.1 (s.2 : Int) (n : Int) (i : Int) = some (iter (rstep c) e i s).1 := by
  intro e
  induction e with
  | zero =>
    intro i k s h ho hs
    rw [show 0 * (n + 2) + 1 + k = k + 1 by omega]
    simp only [semigroupref02_Components.l0]
    rw [if_neg (by omega)]; rfl
  | succ e ih =>
    intro i k s h ho hs
    have hi : i < n := by omega
    rw [show (e + 1) * (n + 2) + 1 + k = (i + 1 + (e * (n + 2) + 1 + (k + n - i))) + 1 by rw [Nat.add_mul]; omega]
    simp only [semigroupref02_Components.l0]
    have h1 := rc_l1 c n i hn hi hc s.2 (by omega) i 0 (e * (n + 2) + 1 + (k + n - i)) (s.1.set i (-1)) (by omega) (by simp; exact ho)
    rw [show ((0 : Nat) : Int) = 0 from rfl] at h1
    rw [if_pos (by omega), if_pos (by omega), if_pos (by omega), Int.toNat_natCast, h1, iter_succ]
    have hr := rstep_len c i s
    rw [← ih (i + 1) (k + n - i) (rstep c i s) (by omega) (by rw [hr.1, ho]) (by omega)]
    unfold rstep
    split <;> rfl
theorem rstep_all (c : List Int) (n : Nat) (h : Pre n c) (out : List Int) (ho : out.length = n) : (iter (rstep c) n 0 (out, 0)).1 = compL n c := by
  have H := iter_inv (f := rstep c) (n := n)
    (fun i s => s.1.length = n ∧ s.2 = cnt c i ∧ ∀ x, x < i → s.1.getD x 0 = (comp c x : Int))
    (fun i s hi ⟨h1, h2, h3⟩ => by
      have q := iter_inv (f := rj c i) (n := i)
        (fun m a => a.length = n ∧ (∀ x, x ≠ i → a.getD x 0 = s.1.getD x 0) ∧ a.getD i 0 = if anyB m (eqv c i) = true then (comp c i : Int) else -1)
        (fun m a hm ⟨g1, g2, g3⟩ => by
          refine ⟨by rw [rj_len, g1], fun x hx => ?_, ?_⟩
          · unfold rj
            split
            · rw [getD_set _ _ _ _ (by omega), if_neg (fun e => hx e.symm)]; exact g2 x hx
            · exact g2 x hx
          · rw [anyB_succ]
            unfold rj
            by_cases e : eqv c i m = true
            · rw [if_pos e, getD_set _ _ _ _ (by omega), if_pos rfl, g2 m (by omega), h3 m hm, e, Bool.or_true, if_pos rfl]
              rw [(h.comp_eq_iff hi (by omega)).mpr e]
            · have : eqv c i m = false := by simpa using e
              rw [if_neg e, this, Bool.or_false]; exact g3)
        i 0 (s.1.set i (-1)) (by omega) ⟨by simp; exact h1, fun x hx => by rw [getD_set _ _ _ _ (by omega), if_neg (fun e => hx e.symm)], by rw [getD_set _ _ _ _ (by omega), if_pos rfl, anyB_zero]; rfl⟩
      obtain ⟨g1, g2, g3⟩ := q
      unfold rstep
      by_cases hb : anyB i (eqv c i) = true
      · rw [if_pos hb] at g3
        have hnr : ¬ isRep c i = true := by unfold isRep; rw [hb]; decide
        rw [if_neg (by rw [g3]; omega)]
        refine ⟨g1, by rw [cnt_succ, if_neg hnr, h2]; rfl, fun x hx => ?_⟩
        by_cases e : x = i
        · subst e; exact g3
        · exact (g2 x e).trans (h3 x (by omega))
      · rw [if_neg hb] at g3
        have hr : isRep c i = true := by unfold isRep; simpa using hb
        rw [if_pos (by rw [g3]; omega)]
        refine ⟨by simp; exact g1, by rw [cnt_succ, if_pos hr, h2], fun x hx => ?_⟩
        rw [getD_set _ _ _ _ (by omega)]
        by_cases e : i = x
        · subst e; rw [if_pos rfl, h.comp_of_rep hi hr, h2]
        · rw [if_neg e]; exact (g2 x (fun z => e z.symm)).trans (h3 x (by omega)))
    n 0 (out, 0) (by omega) ⟨ho, rfl, fun x hx => by omega⟩
  apply ext_rows (by rw [H.1, compL_len])
  intro i hi
  rw [H.1] at hi
  rw [H.2.2 i hi, compL_getD hi]
theorem rcomps_eq (l : List Int) (hu : AllU l) (hv : vb l = true) (K : Nat) (hK : big ≤ K) : semigroupref02_Components.f K l = some (compL l.length (closC l)) := by
  have hn := vb_len hv
  have hs := sq hn
  have hp := pre_of hu hv
  have hK' := hK
  unfold big at hK'
  unfold semigroupref02_Components.f
  rw [rclos_eq l hu hv K hK, Option.bind_some, if_pos (by omega), if_pos (by omega), Int.toNat_natCast, Option.bind_some, List.length_replicate]
  obtain ⟨k, rfl⟩ : ∃ k, K = l.length * (l.length + 2) + 1 + k := ⟨K - (l.length * (l.length + 2) + 1), by omega⟩
  have h0 := rc_l0 (closC l) l.length hn hp.isrel l.length 0 k (List.replicate l.length 0, 0) (by omega) (by simp) (Nat.le_refl _)
  rw [show ((0 : Nat) : Int) = 0 from rfl] at h0
  rw [h0, rstep_all (closC l) l.length hp _ (by simp)]
end Go.Proofs.YtndpeoladndepaaDoor.RelationComponentsRRefComps
