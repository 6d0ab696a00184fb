/- What the reference's order of the components computes: that of the closure. Condition: a valid list of 64-bit numbers. -/
import Derived.Test.YtndpeoladndepaaDoorRelationComponentsRRefComps
import Derived.Test.YtndpeoladndepaaDoorRelationComponentsROrd
import Derived.Test.YtndpeoladndepaaDoorPRelationComponentsx7
namespace Go.Proofs.YtndpeoladndepaaDoor.RelationComponentsRRefOrd
set_option linter.all false
open Go Go.RowKit Go.Proofs.YtndpeoladndepaaDoor.PRelationComponents Go.Proofs.YtndpeoladndepaaDoorW.PrintWords Go.Proofs.YtndpeoladndepaaDoorW.PrintLast Go.Proofs.YtndpeoladndepaaDoorW.PrintMore Go.Proofs.YtndpeoladndepaaDoor.Bit64 Go.Proofs.YtndpeoladndepaaDoor.Base Go.Proofs.YtndpeoladndepaaDoor.Warsh Go.Proofs.YtndpeoladndepaaDoor.Ctz Go.Proofs.YtndpeoladndepaaDoor.RelOps Go.Proofs.YtndpeoladndepaaDoor.RelationComponentsRHas Go.Proofs.YtndpeoladndepaaDoor.RelationComponentsRBit Go.Proofs.YtndpeoladndepaaDoor.RelationComponentsRValid Go.Proofs.YtndpeoladndepaaDoor.RelationComponentsRClos Go.Proofs.YtndpeoladndepaaDoor.RelationComponentsRRefClos Go.Proofs.YtndpeoladndepaaDoor.RelationComponentsRComps Go.Proofs.YtndpeoladndepaaDoor.RelationComponentsRRefComps Go.Proofs.YtndpeoladndepaaDoor.RelationComponentsROrd Go.Proofs.YtndpeoladndepaaDoor.CompC
theorem ro_l0 (a c p : List Int) (n : Nat) (hn : n ≤ 64) (hp : p.length = n) (hr : ∀ i, i < n → 0 ≤ p.getD i 0 ∧ p.getD i 0 < 64) : ∀ (d i k : Nat) (m : Int), i + d = n →
    semigroupref02_Order.l0 (d + 1 + k) a c p m p (n : Int) (i : Int) =
      (let m' := iter (fun i m => mx m (p.getD i 0 + 1)) d i m
       if 0 ≤ m' then (if (m' : Int).toNat ≤ 35184372088832 then semigroupref02_Order.l1 k a c p (List.replicate (m' : Int).toNat 0) (a.length : Int) 0 else none) else none) := by
  intro d
  induction d with
  | zero =>
    intro i k m h
    rw [show 0 + 1 + k = k + 1 by omega]
    simp only [semigroupref02_Order.l0]
    rw [if_neg (by omega)]; rfl
  | succ d ih =>
    intro i k m h
    rw [show d + 1 + 1 + k = (d + 1 + k) + 1 by omega]
    simp only [semigroupref02_Order.l0]
    have h1 := hr i (by omega)
    rw [if_pos (by omega), if_pos (by omega), if_pos (by omega), rd_nat', wrap64_succ (by omega), wrap64_id (by omega) (by omega), ih (i + 1) k _ (by omega)]
    rfl
def ros (c p : List Int) (i j : Nat) (o : List Int) : List Int := if rel c i j = true then ordStep c p i o j else o
theorem ros_len (c p : List Int) (i j : Nat) (o : List Int) : (ros c p i j o).length = o.length := by
  unfold ros; split
  · exact addB_len _ _ o
  · rfl
theorem iter_filter (c p : List Int) (i : Nat) : ∀ (d j : Nat) (o : List Int), iter (ros c p i) d j o = ((List.range' j d).filter (rel c i)).foldl (ordStep c p i) o := by
  intro d
  induction d with
  | zero => intro j o; rfl
  | succ d ih =>
    intro j o
    rw [iter_succ, List.range'_succ, List.filter_cons, ih]
    unfold ros
    by_cases h : rel c i j = true
    · rw [if_pos h, if_pos h, List.foldl_cons]
    · rw [if_neg h, if_neg h]
theorem ros_row (c p : List Int) (n i : Nat) (hn : n ≤ 64) (hc : IsRel n c) (o : List Int) : iter (ros c p i) n 0 o = ordRow c p i o := by
  rw [iter_filter]
  unfold ordRow members
  congr 1
  have e64 : List.range 64 = List.range' 0 n ++ List.range' n (64 - n) := by
    rw [List.range_eq_range']
    have := List.range'_append (s := 0) (m := n) (n := 64 - n) (step := 1)
    rw [Nat.one_mul, Nat.zero_add] at this
    rw [this]; congr 1; omega
  rw [e64, List.filter_append]
  have : (List.range' n (64 - n)).filter (tb (c.getD i 0)) = [] := by
    rw [List.filter_eq_nil_iff]
    intro j hj
    obtain ⟨x, _, rfl⟩ := List.mem_range'.mp hj
    have := hc.out i (n + 1 * x) (by omega)
    unfold rel at this
    rw [this]; simp
  rw [this, List.append_nil]; rfl
theorem ro_l2 (a c p : List Int) (n N i : Nat) (hn : n ≤ 64) (hi : i < n) (ha : a.length = n) (hc : IsRel n c) (hp : p.length = n) (hr : ∀ i, i < n → 0 ≤ p.getD i 0 ∧ p.getD i 0 < N) (hN : N ≤ 64) : ∀ (d j k : Nat) (o : List Int), j + d = n → o.length = N →
    semigroupref02_Order.l2 (d + 1 + k) a c p o (i : Int) (n : Int) (i : Int) (n : Int) (j : Int) = semigroupref02_Order.l1 k a c p (iter (ros c p i) d j o) (n : Int) (((i + 1 : Nat)) : Int) := by
  have hl := hc.len
  intro d
  induction d with
  | zero =>
    intro j k o h ho
    rw [show 0 + 1 + k = k + 1 by omega]
    simp only [semigroupref02_Order.l2]
    rw [if_neg (by omega), wrap64_succ (by omega)]; rfl
  | succ d ih =>
    intro j k o h ho
    have hj : j < n := by omega
    have ri := hr i hi
    have rj := hr j hj
    obtain ⟨x, hx⟩ : ∃ x : Nat, p.getD i 0 = x := ⟨(p.getD i 0).toNat, by omega⟩
    obtain ⟨y, hy⟩ : ∃ y : Nat, p.getD j 0 = y := ⟨(p.getD j 0).toNat, by omega⟩
    rw [show d + 1 + 1 + k = (d + 1 + k) + 1 by omega]
    simp only [semigroupref02_Order.l2]
    rw [if_pos (by omega), if_pos (by omega), if_pos (by omega), rd_nat', has_eq (hc.u.getD i) (by omega), Option.bind_some, iter_succ, wrap64_succ (by omega)]
    by_cases h1 : tb (c.getD i 0) j = true
    · have e : ros c p i j o = o.set x (Go.bits .or .u64 (o.getD x 0) (shl .u64 1 (y : Int))) := by
        unfold ros
        rw [if_pos (show rel c i j = true from h1)]
        unfold ordStep addB
        rw [hx, hy, Int.toNat_natCast, Int.toNat_natCast]
      rw [if_pos h1, if_pos (by omega), rd_nat', hx, if_pos (by omega), if_pos (by omega), if_pos (by omega), if_pos (by omega), rd_nat', rd_nat', hy, bit_eq (by omega), Option.bind_some, Int.toNat_natCast, e, ih (j + 1) k _ (by omega) (by simp; exact ho)]
    · have e : ros c p i j o = o := by unfold ros; rw [if_neg (show ¬ rel c i j = true from h1)]
      rw [if_neg h1, e, ih (j + 1) k _ (by omega) ho]
theorem ro_l1 (a c p : List Int) (n N : Nat) (hn : n ≤ 64) (ha : a.length = n) (hc : IsRel n c) (hp : p.length = n) (hr : ∀ i, i < n → 0 ≤ p.getD i 0 ∧ p.getD i 0 < N) (hN : N ≤ 64) : ∀ (e i k : Nat) (o : List Int), i + e = n → o.length = N →
    semigroupref02_Order.l1 (e * (n + 2) + 1 + k) a c p o (n : Int) (i : Int) = some (iter (ordRow c p) e i o) := by
  intro e
  induction e with
  | zero =>
    intro i k o h ho
    rw [show 0 * (n + 2) + 1 + k = k + 1 by omega]
    simp only [semigroupref02_Order.l1]
    rw [if_neg (by omega)]; rfl
  | succ e ih =>
    intro i k o h ho
    have hi : i < n := by omega
    rw [show (e + 1) * (n + 2) + 1 + k = (n + 1 + (e * (n + 2) + 1 + k)) + 1 by rw [Nat.add_mul]; omega]
    simp only [semigroupref02_Order.l1]
    rw [if_pos (by omega), ha]
    have := ro_l2 a c p n N i hn hi ha hc hp hr hN n 0 (e * (n + 2) + 1 + k) o (by omega) ho
    rw [show ((0 : Nat) : Int) = 0 from rfl] at this
    rw [this, iter_succ, ros_row c p n i hn hc]
    exact ih (i + 1) k _ (by omega) (by unfold ordRow; rw [ofold_len, ho])
theorem rorder_eq (l : List Int) (hu : AllU l) (hv : vb l = true) (K : Nat) (hK : big ≤ K) : semigroupref02_Order.f K l = some (ordC l.length (closC l)) := by
  have hn := vb_len hv
  have hp := pre_of hu hv
  have hs := sq hn
  have hK' := hK
  unfold big at hK'
  have hcn := cnt_le (c := closC l) l.length
  unfold semigroupref02_Order.f
  rw [rclos_eq l hu hv K hK, Option.bind_some, rcomps_eq l hu hv K hK, Option.bind_some]
  have hr : ∀ i, i < l.length → 0 ≤ (compL l.length (closC l)).getD i 0 ∧ (compL l.length (closC l)).getD i 0 < (cnt (closC l) l.length : Int) := fun i hi => by
    rw [compL_getD hi]; have := hp.comp_lt hi; omega
  obtain ⟨k, rfl⟩ : ∃ k, K = l.length + 1 + (l.length * (l.length + 2) + 1 + k) := ⟨K - (l.length + 1 + (l.length * (l.length + 2) + 1)), by omega⟩
  have h0 := ro_l0 l (closC l) (compL l.length (closC l)) l.length hn compL_len (fun i hi => by have := hr i hi; omega) l.length 0 (l.length * (l.length + 2) + 1 + k) 0 (by omega)
  rw [show ((0 : Nat) : Int) = 0 from rfl] at h0
  rw [compL_len, h0, mx_all (closC l) l.length hp]
  simp only
  rw [if_pos (by omega), if_pos (by omega), Int.toNat_natCast]
  have h1 := ro_l1 l (closC l) (compL l.length (closC l)) l.length (cnt (closC l) l.length) hn rfl hp.isrel compL_len hr (by omega) l.length 0 k (List.replicate (cnt (closC l) l.length) 0) (by omega) (by simp)
  rw [show ((0 : Nat) : Int) = 0 from rfl] at h1
  rw [h1, ord_sem (closC l) l.length hn hp]
end Go.Proofs.YtndpeoladndepaaDoor.RelationComponentsRRefOrd
