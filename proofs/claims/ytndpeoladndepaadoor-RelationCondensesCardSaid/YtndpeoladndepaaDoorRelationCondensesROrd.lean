/- What the program's order of the components computes: that of the closure. Condition: a valid list of 64-bit numbers (no rows else). -/
import Derived.Test.YtndpeoladndepaaDoorRelationCondensesRComps
import Derived.Test.YtndpeoladndepaaDoorRelationCondensesRTz
import Derived.Test.YtndpeoladndepaaDoorPRelationCondensesx6
namespace Go.Proofs.YtndpeoladndepaaDoor.RelationCondensesROrd
set_option linter.all false
open Go Go.RowKit Go.Proofs.YtndpeoladndepaaDoor.PRelationCondenses Go.Proofs.YtndpeoladndepaaDoorW.PrintWords Go.Proofs.YtndpeoladndepaaDoorW.PrintLast Go.Proofs.YtndpeoladndepaaDoorW.PrintMore Go.Proofs.YtndpeoladndepaaDoor.Bit64 Go.Proofs.YtndpeoladndepaaDoor.Base Go.Proofs.YtndpeoladndepaaDoor.Warsh Go.Proofs.YtndpeoladndepaaDoor.Ctz Go.Proofs.YtndpeoladndepaaDoor.RelOps Go.Proofs.YtndpeoladndepaaDoor.RelationCondensesRValid Go.Proofs.YtndpeoladndepaaDoor.RelationCondensesRClos Go.Proofs.YtndpeoladndepaaDoor.RelationCondensesRComps Go.Proofs.YtndpeoladndepaaDoor.RelationCondensesRTz Go.Proofs.YtndpeoladndepaaDoor.CompC
theorem ord_l0 (c p : List Int) (n : Nat) (hn : n ≤ 64) (hp : p.length = n) (hr : ∀ i, i < n → 0 ≤ p.getD i 0 ∧ p.getD i 0 < 64) : ∀ (d i k : Nat) (m : Int), i + d = n →
    relation_Order.l0 (d + 1 + k) c p m p (n : Int) (i : Int) =
      (let m' := iter (fun i m => mx m (p.getD i 0 + 1)) d i m
       if 0 ≤ m' then (if (m' : Int).toNat ≤ 35184372088832 then relation_Order.l1 k c p (List.replicate (m' : Int).toNat 0) (c.length : Int) 0 else none) else none) := by
  intro d
  induction d with
  | zero =>
    intro i k m h
    rw [show 0 + 1 + k = k + 1 by omega]
    simp only [relation_Order.l0]
    rw [if_neg (by omega)]; rfl
  | succ d ih =>
    intro i k m h
    rw [show d + 1 + 1 + k = (d + 1 + k) + 1 by omega]
    simp only [relation_Order.l0]
    have h1 := hr i (by omega)
    rw [if_pos (by omega), if_pos (by omega), if_pos (by omega), rd_nat', wrap64_succ (by omega), wrap64_id (by omega) (by omega), ih (i + 1) k _ (by omega)]
    rfl
theorem mx_all (c : List Int) (n : Nat) (h : Pre n c) : iter (fun i m => mx m ((compL n c).getD i 0 + 1)) n 0 0 = (cnt c n : Int) := by
  have H := iter_inv (f := fun i m => mx m ((compL n c).getD i 0 + 1)) (n := n)
    (fun i m => m = (cnt c i : Int))
    (fun i m hi hm => by
      rw [compL_getD hi, hm, cnt_succ]
      unfold mx
      by_cases hr : isRep c i = true
      · rw [if_pos hr, h.comp_of_rep hi hr, if_pos (by omega)]; omega
      · rw [if_neg hr]
        have hri := h.rep_spec hi
        have hne : rep c i ≠ i := fun e => hr ((h.rep_lt_iff hi).mp e)
        have : comp c i < cnt c i := cnt_lt (h.rep_isRep hi) (by omega)
        rw [if_neg (by omega)]; omega)
    n 0 0 (by omega) rfl
  exact H

def ordStep (c p : List Int) (i : Nat) (o : List Int) (j : Nat) : List Int := addB (p.getD i 0).toNat (p.getD j 0).toNat o
theorem ord_l2 (c p : List Int) (n N i : Nat) (hn : n ≤ 64) (hi : i < n) (hp : p.length = n) (hr : ∀ i, i < n → 0 ≤ p.getD i 0 ∧ p.getD i 0 < N) (hN : N ≤ 64) : ∀ (m k : Nat) (o : List Int) (s : Int), U s → (members s).length = m → o.length = N → (∀ j, tb s j = true → j < n) →
    relation_Order.l2 (m + 1 + k) c p o (i : Int) s (n : Int) (i : Int) = relation_Order.l1 k c p ((members s).foldl (ordStep c p i) o) (n : Int) (((i + 1 : Nat)) : Int) := by
  intro m
  induction m with
  | zero =>
    intro k o s hs hm ho hb
    have e : s = 0 := by
      apply eq_zero hs
      intro j hj
      cases ht : tb s j with
      | false => rfl
      | true =>
        have : j ∈ members s := mem_members.mpr ⟨hj, ht⟩
        rw [List.eq_nil_of_length_eq_zero hm] at this
        cases this
    subst e
    rw [show 0 + 1 + k = k + 1 by omega]
    simp only [relation_Order.l2]
    rw [if_pos trivial, members_zero, wrap64_succ (by omega)]; rfl
  | succ m ih =>
    intro k o s hs hm ho hb
    have hne : s ≠ 0 := by
      intro e; subst e; rw [members_zero] at hm; cases hm
    obtain ⟨j, hj, h1, h2⟩ := lowest hs hne
    have hst := members_step hs hj h1 h2
    have hjr := hb j h1
    have ri := hr i hi
    have rj := hr j hjr
    obtain ⟨x, hx⟩ : ∃ x : Nat, p.getD i 0 = x := ⟨(p.getD i 0).toNat, by omega⟩
    obtain ⟨y, hy⟩ : ∃ y : Nat, p.getD j 0 = y := ⟨(p.getD j 0).toNat, by omega⟩
    rw [show m + 1 + 1 + k = (m + 1 + k) + 1 by omega]
    simp only [relation_Order.l2]
    rw [if_neg hne, if_pos (by omega), if_pos (by omega), rd_nat', hx, if_pos (by omega), if_pos (by omega), tz_low hs hne hj h1 h2]
    rw [Option.bind_some]
    rw [if_pos (by omega), if_pos (by omega), rd_nat', rd_nat', hy, wrap_idx (by omega) (by omega), if_pos (by omega), hst, List.foldl_cons, Int.toNat_natCast]
    have e : ordStep c p i o j = o.set x (Go.bits .or .u64 (o.getD x 0) (shl .u64 1 (y : Int))) := by
      unfold ordStep addB; rw [hx, hy, Int.toNat_natCast, Int.toNat_natCast]
    rw [e]
    exact ih k _ _ (U_and hs U_pred) (by rw [hst] at hm; simpa using hm) (by simp; exact ho) (fun z hz => hb z (by rw [and_pred hs h1 h2] at hz; simp at hz; exact hz.1))

theorem ofold_len (c p : List Int) (i : Nat) : ∀ (L : List Nat) (o : List Int), (L.foldl (ordStep c p i) o).length = o.length := by
  intro L
  induction L with
  | nil => intro o; rfl
  | cons x L ih => intro o; rw [List.foldl_cons, ih]; exact addB_len _ _ o
def ordRow (c p : List Int) (i : Nat) (o : List Int) : List Int := (members (c.getD i 0)).foldl (ordStep c p i) o
theorem ord_l1 (c p : List Int) (n N : Nat) (hn : n ≤ 64) (hc : IsRel n c) (hp : p.length = n) (hr : ∀ i, i < n → 0 ≤ p.getD i 0 ∧ p.getD i 0 < N) (hN : N ≤ 64) : ∀ (d i k : Nat) (o : List Int), i + d = n → o.length = N →
    relation_Order.l1 (d * 66 + 1 + k) c p o (n : Int) (i : Int) = some (iter (ordRow c p) d i o) := by
  have hl := hc.len
  intro d
  induction d with
  | zero =>
    intro i k o h ho
    rw [show 0 * 66 + 1 + k = k + 1 by omega]
    simp only [relation_Order.l1]
    rw [if_neg (by omega)]; rfl
  | succ d ih =>
    intro i k o h ho
    have hi : i < n := by omega
    have hl' := members_len (c.getD i 0)
    rw [show (d + 1) * 66 + 1 + k = ((members (c.getD i 0)).length + 1 + (d * 66 + 1 + (k + 64 - (members (c.getD i 0)).length))) + 1 by omega]
    simp only [relation_Order.l1]
    rw [if_pos (by omega), if_pos (by omega), if_pos (by omega), rd_nat']
    have hmem : ∀ j, tb (c.getD i 0) j = true → j < n := fun j hj => (hc.lt (i := i) (j := j) hj).2
    rw [ord_l2 c p n N i hn hi hp hr hN _ _ o _ (hc.u.getD i) rfl ho hmem, iter_succ]
    exact ih (i + 1) (k + 64 - (members (c.getD i 0)).length) _ (by omega) (by rw [ofold_len, ho])

theorem ofold_spec (c p : List Int) (n N i : Nat) (hi : i < n) (hr : ∀ i, i < n → 0 ≤ p.getD i 0 ∧ p.getD i 0 < N) (hN : N ≤ 64) : ∀ (L : List Nat) (o : List Int), o.length = N → AllU o → (∀ j ∈ L, j < n) →
    AllU (L.foldl (ordStep c p i) o) ∧ ∀ x y, rel (L.foldl (ordStep c p i) o) x y = (rel o x y || (decide ((x : Int) = p.getD i 0) && L.any fun j => decide ((y : Int) = p.getD j 0))) := by
  intro L
  induction L with
  | nil => intro o ho hu _; exact ⟨hu, fun x y => by simp⟩
  | cons j L ih =>
    intro o ho hu h3
    have hj : j < n := h3 j (List.mem_cons_self ..)
    have ri := hr i hi
    have rj := hr j hj
    have hu1 : AllU (ordStep c p i o j) := addB_u hu _ (by omega)
    obtain ⟨g1, g2⟩ := ih (ordStep c p i o j) (by unfold ordStep; rw [addB_len, ho]) hu1 (fun z hz => h3 z (List.mem_cons_of_mem _ hz))
    refine ⟨g1, fun x y => ?_⟩
    rw [List.foldl_cons, g2 x y, List.any_cons]
    unfold ordStep
    rw [addB_rel hu (by omega) (by omega)]
    have e1 : decide (x = (p.getD i 0).toNat) = decide ((x : Int) = p.getD i 0) := by
      by_cases e : (x : Int) = p.getD i 0
      · rw [decide_eq_true e, decide_eq_true (by omega)]
      · rw [decide_eq_false e, decide_eq_false (by omega)]
    have e2 : decide (y = (p.getD j 0).toNat) = decide ((y : Int) = p.getD j 0) := by
      by_cases e : (y : Int) = p.getD j 0
      · rw [decide_eq_true e, decide_eq_true (by omega)]
      · rw [decide_eq_false e, decide_eq_false (by omega)]
    rw [e1, e2]
    cases rel o x y <;> cases decide ((x : Int) = p.getD i 0) <;> simp

theorem ord_sem (c : List Int) (n : Nat) (hn : n ≤ 64) (h : Pre n c) : iter (ordRow c (compL n c)) n 0 (List.replicate (cnt c n) 0) = ordC n c := by
  have hcn := cnt_le (c := c) n
  have hr : ∀ i, i < n → 0 ≤ (compL n c).getD i 0 ∧ (compL n c).getD i 0 < (cnt c n : Int) := fun i hi => by
    rw [compL_getD hi]; have := h.comp_lt hi; omega
  have H := iter_inv (f := ordRow c (compL n c)) (n := n)
    (fun m o => o.length = cnt c n ∧ AllU o ∧ ∀ x y, rel o x y = anyB m fun i => anyB n fun j => rel c i j && (decide (comp c i = x) && decide (comp c j = y)))
    (fun m o hm ⟨h1, h2, h3⟩ => by
      have hmem : ∀ j ∈ members (c.getD m 0), j < n := fun j hj => (h.isrel.lt (i := m) (j := j) (mem_members.mp hj).2).2
      obtain ⟨g1, g2⟩ := ofold_spec c (compL n c) n (cnt c n) m hm hr (by omega) (members (c.getD m 0)) o h1 h2 hmem
      refine ⟨by unfold ordRow; rw [ofold_len, h1], g1, fun x y => ?_⟩
      show rel ((members (c.getD m 0)).foldl (ordStep c (compL n c) m) o) x y = _
      rw [g2 x y, h3 x y, anyB_succ]
      congr 1
      rw [compL_getD hm]
      apply bool_eq
      rw [Bool.and_eq_true, List.any_eq_true, anyB_iff]
      constructor
      · rintro ⟨a, j, hj, b⟩
        have hjn := hmem j hj
        rw [compL_getD hjn] at b
        have a' := of_decide_eq_true a
        have b' := of_decide_eq_true b
        refine ⟨j, hjn, ?_⟩
        rw [show rel c m j = true from (mem_members.mp hj).2, decide_eq_true (by omega), decide_eq_true (by omega)]; rfl
      · rintro ⟨j, hj, b⟩
        simp at b
        refine ⟨decide_eq_true (by omega), j, mem_members.mpr ⟨by omega, b.1⟩, ?_⟩
        rw [compL_getD hj]
        exact decide_eq_true (by omega))
    n 0 (List.replicate (cnt c n) 0) (by omega) ⟨by simp, AllU.replicate _, fun x y => by rw [rel_replicate, anyB_zero]⟩
  apply mkRel_of (by omega) H.1 H.2.1
  intro x hx y
  rw [H.2.2 x y]
  by_cases hy : y < cnt c n
  · rw [decide_eq_true hy, Bool.true_and]
  · rw [decide_eq_false hy, Bool.false_and]
    apply bool_eq
    rw [anyB_iff]
    constructor
    · rintro ⟨i, hi, b⟩
      obtain ⟨j, hj, b2⟩ := anyB_iff.mp b
      simp at b2
      have := h.comp_lt hj
      omega
    · intro z; cases z

theorem order_eq (l : List Int) (hu : AllU l) (hv : vb l = true) (K : Nat) (hK : big ≤ K) : relation_Order.f K l = some (ordC l.length (closC l)) := by
  have hn := vb_len hv
  have hp := pre_of hu hv
  have hK' := hK
  unfold big at hK'
  have hcn := cnt_le (c := closC l) l.length
  unfold relation_Order.f
  rw [valid_eq l hu K (by omega), hv]
  rw [Option.bind_some]
  rw [if_pos rfl, clos_eq l hu hv K hK]
  rw [Option.bind_some]
  rw [comps_eq l hu hv K hK]
  rw [Option.bind_some]
  have hr : ∀ i, i < l.length → 0 ≤ (compL l.length (closC l)).getD i 0 ∧ (compL l.length (closC l)).getD i 0 < (cnt (closC l) l.length : Int) := fun i hi => by
    rw [compL_getD hi]; have := hp.comp_lt hi; omega
  obtain ⟨k, rfl⟩ : ∃ k, K = l.length + 1 + (l.length * 66 + 1 + k) := ⟨K - (l.length + 1 + (l.length * 66 + 1)), by omega⟩
  have h0 := ord_l0 (closC l) (compL l.length (closC l)) l.length hn compL_len (fun i hi => by have := hr i hi; omega) l.length 0 (l.length * 66 + 1 + k) 0 (by omega)
  rw [show ((0 : Nat) : Int) = 0 from rfl] at h0
  rw [compL_len, h0, mx_all (closC l) l.length hp]
  simp only
  rw [if_pos (by omega), if_pos (by omega), Int.toNat_natCast, hp.isrel.len]
  have h1 := ord_l1 (closC l) (compL l.length (closC l)) l.length (cnt (closC l) l.length) hn hp.isrel compL_len hr (by omega) l.length 0 k (List.replicate (cnt (closC l) l.length) 0) (by omega) (by simp)
  rw [show ((0 : Nat) : Int) = 0 from rfl] at h1
  rw [h1, ord_sem (closC l) l.length hn hp]
theorem order_bad (l : List Int) (hu : AllU l) (hv : vb l = false) (K : Nat) (hK : big ≤ K) : relation_Order.f K l = some [] := by
  unfold big at hK
  unfold relation_Order.f
  rw [valid_eq l hu K (by omega), hv]
  rw [Option.bind_some]
  rw [if_neg (by decide)]
end Go.Proofs.YtndpeoladndepaaDoor.RelationCondensesROrd
