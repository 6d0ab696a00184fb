/- The pure statement of RelationCondenses: the order of the components is reflexive, transitive and antisymmetric, and the components of a relation and of its converse are the same. Conditions: those of the given statement alone. -/
import Derived.Test.YtndpeoladndepaaDoorRelationCondensesROrd
import Derived.Test.YtndpeoladndepaaDoorRelationCondensesRTrans
import Derived.Test.YtndpeoladndepaaDoorRelationCondensesRMeet
import Derived.Test.YtndpeoladndepaaDoorRelationCondensesRId
import Derived.Test.YtndpeoladndepaaDoorRelationCondensesRLSame
import Derived.Test.YtndpeoladndepaaDoorRelationCondensesRVb
import Derived.Test.YtndpeoladndepaaDoorRelationCondensesRAwake
import Derived.Test.YtndpeoladndepaaDoorPRelationCondensesx6
namespace Go.Proofs.YtndpeoladndepaaDoor.Pure
set_option linter.all false
open Go Go.RowKit Go.Proofs.YtndpeoladndepaaDoor.PRelationCondenses Go.Proofs.YtndpeoladndepaaDoorW.PrintWords Go.Proofs.YtndpeoladndepaaDoorW.PrintLast Go.Proofs.YtndpeoladndepaaDoor.Bit64 Go.Proofs.YtndpeoladndepaaDoor.Base Go.Proofs.YtndpeoladndepaaDoor.Warsh Go.Proofs.YtndpeoladndepaaDoor.Ctz Go.Proofs.YtndpeoladndepaaDoor.RelOps Go.Proofs.YtndpeoladndepaaDoor.RelationCondensesRValid Go.Proofs.YtndpeoladndepaaDoor.RelationCondensesRClos Go.Proofs.YtndpeoladndepaaDoor.RelationCondensesRComps Go.Proofs.YtndpeoladndepaaDoor.RelationCondensesROrd Go.Proofs.YtndpeoladndepaaDoor.RelationCondensesRTrans Go.Proofs.YtndpeoladndepaaDoor.RelationCondensesRMeet Go.Proofs.YtndpeoladndepaaDoor.RelationCondensesRId Go.Proofs.YtndpeoladndepaaDoor.RelationCondensesRLSame Go.Proofs.YtndpeoladndepaaDoor.RelationCondensesRSame Go.Proofs.YtndpeoladndepaaDoor.RelationCondensesRVb Go.Proofs.YtndpeoladndepaaDoor.RelationCondensesRAwake Go.Proofs.YtndpeoladndepaaDoor.CompC

section
variable {n : Nat} {a c c2 : List Int}
theorem repFrom_congr (h : ∀ i j, eqv c i j = eqv c2 i j) (j : Nat) : ∀ d i, repFrom c j d i = repFrom c2 j d i := by
  intro d
  induction d with
  | zero => intro i; rfl
  | succ d ih => intro i; unfold repFrom; rw [h j i, ih]
theorem isRep_congr (h : ∀ i j, eqv c i j = eqv c2 i j) (i : Nat) : isRep c i = isRep c2 i := by
  unfold isRep
  have : eqv c i = eqv c2 i := funext (h i)
  rw [this]
theorem cnt_congr (h : ∀ i j, eqv c i j = eqv c2 i j) (n : Nat) : cnt c n = cnt c2 n := by
  unfold cnt
  have : isRep c = isRep c2 := funext (isRep_congr h)
  rw [this]
theorem comp_congr (h : ∀ i j, eqv c i j = eqv c2 i j) (i : Nat) : comp c i = comp c2 i := by
  unfold comp rep
  rw [repFrom_congr h, cnt_congr h]
theorem eqv_trans (hn : n ≤ 64) (rc : IsRel n c) (i j : Nat) : eqv (transC n c) i j = eqv c i j := by
  have rt : IsRel n (transC n c) := mkRel_is hn _
  apply bool_eq
  rw [eqv_iff, eqv_iff]
  constructor
  · rintro ⟨h1, h2⟩
    have l := rt.lt h1
    unfold transC at h1 h2
    rw [mkRel_rel' hn _ l.1 l.2] at h1
    rw [mkRel_rel' hn _ l.2 l.1] at h2
    exact ⟨h2, h1⟩
  · rintro ⟨h1, h2⟩
    have l := rc.lt h1
    unfold transC
    rw [mkRel_rel' hn _ l.1 l.2, mkRel_rel' hn _ l.2 l.1]
    exact ⟨h2, h1⟩
theorem clos_of {n : Nat} {a : List Int} (hn : n ≤ 64) (ra : IsRel n a) : Clos a (closC a) := by
  have hl := ra.len
  subst hl
  exact clos_spec ra hn
theorem trel (hn : n ≤ 64) (rc : IsRel n c) (i j : Nat) : rel (transC n c) i j = rel c j i := by
  have rt : IsRel n (transC n c) := mkRel_is hn _
  by_cases h : i < n ∧ j < n
  · unfold transC; rw [mkRel_rel' hn _ h.1 h.2]
  · apply bool_eq
    exact ⟨fun h1 => absurd (rt.lt h1) h, fun h1 => absurd ⟨(rc.lt h1).2, (rc.lt h1).1⟩ h⟩
theorem clos_trans (hn : n ≤ 64) (ra : IsRel n a) : closC (transC n a) = transC n (closC a) := by
  have rt : IsRel n (transC n a) := mkRel_is hn _
  have h1 := clos_of hn ra
  have h2 := clos_of hn rt
  have r1 : IsRel n (closC a) := by have := h1.isrel; rw [ra.len] at this; exact this
  have r2 : IsRel n (closC (transC n a)) := by have := h2.isrel; rw [rt.len] at this; exact this
  have r3 : IsRel n (transC n (closC a)) := mkRel_is hn _
  apply r2.ext r3 hn
  intro i j hi hj
  rw [trel hn r1]
  apply bool_eq
  constructor
  · intro h
    exact h2.least (fun i j => rel (closC a) j i = true) (fun i hi => h1.refl i (by rw [ra.len]; rw [rt.len] at hi; exact hi)) (fun i j h => h1.sub j i (by rw [trel hn ra] at h; exact h)) (fun i k j h3 h4 => h1.trans j k i h4 h3) i j h
  · intro h
    exact h1.least (fun j i => rel (closC (transC n a)) i j = true) (fun i hi => h2.refl i (by rw [rt.len]; rw [ra.len] at hi; exact hi)) (fun j i h => h2.sub i j (by rw [trel hn ra]; exact h)) (fun i k j h3 h4 => h2.trans j k i h4 h3) j i h
theorem Pre_clos (hn : n ≤ 64) (ra : IsRel n a) : Pre n (closC a) := by
  have := Pre.of_clos (clos_of hn ra)
  rw [ra.len] at this; exact this
theorem ord_clos (hn : n ≤ 64) (h : Pre n c) : closC (ordC n c) = ordC n c := by
  have hcn := cnt_le (c := c) n
  have ro := h.ord_is hn
  have hm : cnt c n ≤ 64 := by omega
  have hk := clos_of hm ro
  have rk : IsRel (cnt c n) (closC (ordC n c)) := by have := hk.isrel; rw [ro.len] at this; exact this
  apply rk.ext ro hm
  intro x y hx hy
  apply bool_eq
  constructor
  · intro hxy
    refine hk.least (fun x y => rel (ordC n c) x y = true) (fun x hx => ?_) (fun x y h => h) (fun x z y h1 h2 => ?_) x y hxy
    · rw [ro.len] at hx
      obtain ⟨i, hi, rfl⟩ := h.comp_onto hx
      rw [h.ord_rel hn hi hi]; exact h.refl i hi
    · have l1 := ro.lt h1
      have l2 := ro.lt h2
      obtain ⟨i, hi, rfl⟩ := h.comp_onto l1.1
      obtain ⟨k, hk, rfl⟩ := h.comp_onto l1.2
      obtain ⟨j, hj, rfl⟩ := h.comp_onto l2.2
      rw [h.ord_rel hn hi hk] at h1
      rw [h.ord_rel hn hk hj] at h2
      rw [h.ord_rel hn hi hj]
      exact h.trans i k j h1 h2
  · exact hk.sub x y
theorem ord_anti (hn : n ≤ 64) (h : Pre n c) : meetC (cnt c n) (ordC n c) (transC (cnt c n) (ordC n c)) = idC (cnt c n) := by
  have hcn := cnt_le (c := c) n
  have hm : cnt c n ≤ 64 := by omega
  unfold meetC idC
  apply mkRel_congr _ hm
  intro x y hx hy
  rw [trel hm (h.ord_is hn)]
  obtain ⟨i, hi, rfl⟩ := h.comp_onto hx
  obtain ⟨j, hj, rfl⟩ := h.comp_onto hy
  rw [h.ord_rel hn hi hj, h.ord_rel hn hj hi]
  apply bool_eq
  rw [decide_eq_true_eq, h.comp_eq_iff hi hj]; rfl
theorem ord_trans (hn : n ≤ 64) (h : Pre n c) (rc : IsRel n c) : ordC n (transC n c) = transC (cnt c n) (ordC n c) := by
  have hcn := cnt_le (c := c) n
  have hm : cnt c n ≤ 64 := by omega
  have he := eqv_trans hn rc
  have hcc : cnt (transC n c) n = cnt c n := cnt_congr he n
  unfold transC at hcc
  unfold ordC
  rw [show cnt (transC n c) n = cnt c n from cnt_congr he n]
  unfold transC
  apply mkRel_congr _ hm
  intro x y hx hy
  rw [mkRel_rel' hm _ hy hx]
  apply bool_eq
  rw [anyB_iff, anyB_iff]
  constructor
  · rintro ⟨i, hi, h1⟩
    obtain ⟨j, hj, h2⟩ := anyB_iff.mp h1
    rw [show rel (mkRel n fun i j => rel c j i) i j = rel c j i from trel hn rc i j, show comp (mkRel n fun i j => rel c j i) i = comp c i from comp_congr he i, show comp (mkRel n fun i j => rel c j i) j = comp c j from comp_congr he j] at h2
    simp only [Bool.and_eq_true] at h2
    exact ⟨j, hj, anyB_iff.mpr ⟨i, hi, by rw [h2.1, h2.2.1, h2.2.2]; rfl⟩⟩
  · rintro ⟨j, hj, h1⟩
    obtain ⟨i, hi, h2⟩ := anyB_iff.mp h1
    simp only [Bool.and_eq_true] at h2
    refine ⟨i, hi, anyB_iff.mpr ⟨j, hj, ?_⟩⟩
    rw [show rel (mkRel n fun i j => rel c j i) i j = rel c j i from trel hn rc i j, show comp (mkRel n fun i j => rel c j i) i = comp c i from comp_congr he i, show comp (mkRel n fun i j => rel c j i) j = comp c j from comp_congr he j, h2.1, h2.2.1, h2.2.2]; rfl
end
theorem RelationCondenses : semigrouplaw02_RelationCondenses.Pure := by
  intro a _ _ ha
  have ua := AllU.of_wf ha
  refine ⟨big + 1, ?_⟩
  unfold semigrouplaw02_RelationCondenses.f
  rw [awake_true (big + 1) (Nat.le_succ _), rvalid_eq a ua (big + 1) (by decide)]
  cases va : vb a with
  | false => simp
  | true =>
    obtain ⟨n, hn'⟩ : ∃ n, n = a.length := ⟨_, rfl⟩
    have hn : n ≤ 64 := by have := vb_len va; omega
    have ra : IsRel n a := by rw [hn']; exact is_of ua va
    have hp := Pre_clos hn ra
    have rc := hp.isrel
    have hcn := cnt_le (c := closC a) n
    have hm : cnt (closC a) n ≤ 64 := by omega
    have ro := hp.ord_is hn
    have rto : IsRel (cnt (closC a) n) (transC (cnt (closC a) n) (ordC n (closC a))) := mkRel_is hm _
    have rta : IsRel n (transC n a) := mkRel_is hn _
    have T1 : ∀ K, big ≤ K → relation_Transpose.f K (ordC n (closC a)) = some (transC (cnt (closC a) n) (ordC n (closC a))) := fun K hK => by
      have := transpose_eq _ ro.u (vb_of ro hm) K (by unfold big at hK; omega)
      rw [ro.len] at this; exact this
    have T2 : ∀ K, big ≤ K → relation_Transpose.f K a = some (transC n a) := fun K hK => by
      have := transpose_eq a ua va K (by unfold big at hK; omega)
      rw [← hn'] at this; exact this
    have O1 : ∀ K, big ≤ K → relation_Order.f K a = some (ordC n (closC a)) := fun K hK => by
      have := order_eq a ua va K hK
      rw [← hn'] at this; exact this
    have C1 : ∀ K, big ≤ K → relation_Components.f K a = some (compL n (closC a)) := fun K hK => by
      have := comps_eq a ua va K hK
      rw [← hn'] at this; exact this
    have O2 : ∀ K, big ≤ K → relation_Order.f K (transC n a) = some (ordC n (closC (transC n a))) := fun K hK => by
      have := order_eq _ rta.u (vb_of rta hn) K hK
      rw [rta.len] at this; exact this
    have C2 : ∀ K, big ≤ K → relation_Components.f K (transC n a) = some (compL n (closC (transC n a))) := fun K hK => by
      have := comps_eq _ rta.u (vb_of rta hn) K hK
      rw [rta.len] at this; exact this
    have M1 : relation_Meet.f (big + 1) (ordC n (closC a)) (transC (cnt (closC a) n) (ordC n (closC a))) = some (idC (cnt (closC a) n)) := by
      have := meet_eq _ _ ro.u rto.u (vb_of ro hm) (vb_of rto hm) (by rw [ro.len, rto.len]) (big + 1) (by decide)
      rw [ro.len, ord_anti hn hp] at this; exact this
    have ec : compL n (closC (transC n a)) = compL n (closC a) := by
      rw [clos_trans hn ra]
      unfold compL
      apply List.map_congr_left
      intro i _
      rw [comp_congr (eqv_trans hn rc) i]
    have eo : ordC n (closC (transC n a)) = transC (cnt (closC a) n) (ordC n (closC a)) := by
      rw [clos_trans hn ra, ord_trans hn hp rc]
    rw [Option.bind_some, if_pos rfl, O1 (big + 1) (Nat.le_succ _), Option.bind_some, valid_eq _ ro.u (big + 1) (by decide), vb_of ro hm, Option.bind_some, if_pos rfl, clos_eq _ ro.u (vb_of ro hm) (big + 1) (Nat.le_succ _), Option.bind_some, ord_clos hn hp, same_eq _ _ (by rw [ro.len]; exact hm) (big + 1) (by decide), Option.bind_some, if_pos (by simp), T1 (big + 1) (Nat.le_succ _), Option.bind_some, M1, Option.bind_some, ro.len, ident_eq _ hm (big + 1) (by decide), Option.bind_some, same_eq _ _ (by unfold idC; rw [mkRel_len]; exact hm) (big + 1) (by decide), Option.bind_some]
    simp only [semigrouplaw02_RelationCondenses.j0]
    rw [if_neg (by simp), C1 big (Nat.le_refl _), Option.bind_some, compL_len, hn', if_pos rfl, ← hn', T2 big (Nat.le_refl _), Option.bind_some, C2 big (Nat.le_refl _), Option.bind_some, ec, lsame_eq _ _ (by rw [compL_len]; exact hn) big (by decide), Option.bind_some, if_pos (by simp), Option.bind_some, O2 big (Nat.le_refl _), Option.bind_some, T1 big (Nat.le_refl _), Option.bind_some, eo, same_eq _ _ (by rw [rto.len]; exact hm) big (by decide), Option.bind_some, if_pos (by simp), awake_true big (Nat.le_refl _)]
    rfl
end Go.Proofs.YtndpeoladndepaaDoor.Pure
