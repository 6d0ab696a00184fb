/- What the program's topological order computes: the least order, or that there is none. Condition: a valid list of 64-bit numbers. -/
import Derived.Test.YtndpeoladndepaaDoorRelationAcyclicRTrans
import Derived.Test.YtndpeoladndepaaDoorRelationAcyclicRVb
import Derived.Test.YtndpeoladndepaaDoorRelationAcyclicRAwake
import Derived.Test.YtndpeoladndepaaDoorTopo
import Derived.Test.YtndpeoladndepaaDoorPRelationAcyclicx5
namespace Go.Proofs.YtndpeoladndepaaDoor.RelationAcyclicRTopo
set_option linter.all false
open Go Go.RowKit Go.Proofs.YtndpeoladndepaaDoor.PRelationAcyclic Go.Proofs.YtndpeoladndepaaDoorW.PrintWords Go.Proofs.YtndpeoladndepaaDoorW.PrintLast Go.Proofs.YtndpeoladndepaaDoorW.PrintMore Go.Proofs.YtndpeoladndepaaDoor.Bit64 Go.Proofs.YtndpeoladndepaaDoor.Base Go.Proofs.YtndpeoladndepaaDoor.Warsh Go.Proofs.YtndpeoladndepaaDoor.Ctz Go.Proofs.YtndpeoladndepaaDoor.RelOps Go.Proofs.YtndpeoladndepaaDoor.RelationAcyclicRValid Go.Proofs.YtndpeoladndepaaDoor.RelationAcyclicRTz Go.Proofs.YtndpeoladndepaaDoor.RelationAcyclicRTrans Go.Proofs.YtndpeoladndepaaDoor.RelationAcyclicRVb Go.Proofs.YtndpeoladndepaaDoor.Topo Go.Proofs.YtndpeoladndepaaDoor.CompC
def castL (l : List Nat) : List Int := l.map fun (j : Nat) => (j : Int)
def tell (x : List Nat × Bool) : List Int × Bool := (castL x.1, x.2)
theorem filter_cut {α : Type} (l : List α) (p q : α → Bool) : (l.filter p).find? q = l.find? (fun x => p x && q x) := by
  induction l with
  | nil => rfl
  | cons x l ih =>
    rw [List.filter_cons, List.find?_cons]
    cases hp : p x with
    | false =>
      rw [if_neg (by decide), ih, Bool.false_and]
    | true =>
      rw [if_pos rfl, List.find?_cons, ih, Bool.true_and]
theorem find_congr {α : Type} {p q : α → Bool} : ∀ {l : List α}, (∀ x ∈ l, p x = q x) → l.find? p = l.find? q := by
  intro l
  induction l with
  | nil => intro _; rfl
  | cons x l ih =>
    intro h
    rw [List.find?_cons, List.find?_cons, h x (List.mem_cons_self ..), ih (fun y hy => h y (List.mem_cons_of_mem _ hy))]
/-- What one scan of the points that are left finds. -/
def good (n : Nat) (r : List Int) (left : Int) (j : Nat) : Bool := !(anyB n fun i => rel r i j && (tb left i && decide (i ≠ j)))
theorem tp_l1 (r : List Int) (n : Nat) (hn : n ≤ 64) (hr : IsRel n r) (left : Int) (hl : U left) (hb : ∀ j, tb left j = true → j < n) (out : List Int) (ho : out.length ≤ 64) : ∀ (m k : Nat) (s : Int), U s → (members s).length = m → (∀ j, tb s j = true → j < n) →
    relation_Topological.l1 (m + 1 + k) (transC n r) left out (-1) s = match (members s).find? (good n r left) with
      | none => some ([], false)
      | some j => relation_Topological.l0 (m + k - (members s).findIdx (good n r left)) (transC n r) (Go.bits .andNot .u64 left (shl .u64 1 (j : Int))) (out ++ [(j : Int)]) := by
  intro m
  induction m with
  | zero =>
    intro k s hs hm _
    have e : s = 0 := by
      apply eq_zero hs
      intro j hj
      cases ht : tb s j with
      | false => rfl
      | true =>
        have : j ∈ members s := mem_members.mpr ⟨hj, ht⟩
        rw [List.eq_nil_of_length_eq_zero hm] at this
        cases this
    subst e
    rw [show 0 + 1 + k = k + 1 by omega]
    simp only [relation_Topological.l1]
    rw [if_pos trivial, members_zero, if_pos (by decide)]; rfl
  | succ m ih =>
    intro k s hs hm hsb
    have hne : s ≠ 0 := by
      intro e; subst e; rw [members_zero] at hm; cases hm
    obtain ⟨j, hj, h1, h2⟩ := lowest hs hne
    have hst := members_step hs hj h1 h2
    have hjr := hsb j h1
    have rt : IsRel n (transC n r) := mkRel_is hn _
    have hlen := rt.len
    rw [show m + 1 + 1 + k = (m + 1 + k) + 1 by omega]
    simp only [relation_Topological.l1]
    rw [if_neg hne, tz_low hs hne hj h1 h2, Option.bind_some, if_pos (by omega), if_pos (by omega), wrap_idx (by omega) (by omega), if_pos (by omega), rd_nat]
    have us : U (shl .u64 1 (j : Int)) := U_shl (by omega) (by omega)
    have ub := U_and (rt.u.getD j) hl
    have key : Go.bits .andNot .u64 (Go.bits .and .u64 ((transC n r).getD j 0) left) (shl .u64 1 (j : Int)) = 0 ↔ good n r left j = true := by
      have bits : ∀ i, i < n → tb (Go.bits .andNot .u64 (Go.bits .and .u64 ((transC n r).getD j 0) left) (shl .u64 1 (j : Int))) i = (rel r i j && (tb left i && decide (i ≠ j))) := by
        intro i hi
        have e : tb ((transC n r).getD j 0) i = rel r i j := mkRel_rel' hn _ hjr hi
        rw [tb_andNot ub us, tb_and (rt.u.getD j) hl, tb_shl (by omega) (by omega), e, Int.toNat_natCast, Bool.and_assoc]
        simp
      constructor
      · intro h0
        unfold good
        cases hg : anyB n (fun i => rel r i j && (tb left i && decide (i ≠ j))) with
        | false => rfl
        | true =>
          obtain ⟨i, hi, hq⟩ := anyB_iff.mp hg
          have := bits i hi
          rw [h0, tb_zero] at this
          rw [← this] at hq; cases hq
      · intro hg
        apply eq_zero (U_andNot ub us)
        intro i _
        by_cases hi : i < n
        · rw [bits i hi]
          unfold good at hg
          cases hq : (rel r i j && (tb left i && decide (i ≠ j))) with
          | false => rfl
          | true =>
            have : anyB n (fun i => rel r i j && (tb left i && decide (i ≠ j))) = true := anyB_iff.mpr ⟨i, hi, hq⟩
            rw [this] at hg; cases hg
        · rw [tb_andNot ub us, tb_and (rt.u.getD j) hl]
          have : tb left i = false := by
            cases ht : tb left i with
            | false => rfl
            | true => exact absurd (hb i ht) hi
          rw [this]; simp
    rw [hst, List.find?_cons, List.findIdx_cons]
    cases hg : good n r left j with
    | true =>
      rw [if_pos (key.mpr hg), if_neg (by omega), if_pos (by omega)]
      simp only [cond_true]
      congr 1 <;> omega
    | false =>
      rw [if_neg (fun h => by have := key.mp h; rw [hg] at this; cases this)]
      have hm' : (members (Go.bits .and .u64 s (IntKind.u64.wrap (s - 1)))).length = m := by rw [hst] at hm; simpa using hm
      rw [ih k _ (U_and hs U_pred) hm' (fun i hi => hsb i (by rw [and_pred hs h1 h2] at hi; simp at hi; exact hi.1))]
      simp only [cond_false]
      split
      · rfl
      · congr 1 <;> omega

theorem left_zero {n : Nat} {left : Int} (hl : U left) (hn : n ≤ 64) (hb : ∀ j, tb left j = true → j < n) : left = 0 ↔ cntF (tb left) n = 0 := by
  constructor
  · intro h; subst h
    have : cntF (tb 0) n = cntF (fun _ => false) n := cntF_congr n (fun i _ => tb_zero i)
    rw [this]
    clear this hl hb hn
    induction n with
    | zero => rfl
    | succ n ih => rw [cntF_succ, ih]; rfl
  · intro h
    apply eq_zero hl
    intro j _
    cases ht : tb left j with
    | false => rfl
    | true => have := cntF_none h j (hb j ht); rw [ht] at this; cases this

theorem find_members {n : Nat} {left : Int} {out : List Nat} {r : List Int} (hn : n ≤ 64) (hb : ∀ j, tb left j = (decide (j < n) && lft out j)) :
    (members left).find? (good n r left) = (List.range n).find? (free n r out) := by
  unfold members
  rw [filter_cut]
  have e64 : List.range 64 = List.range n ++ List.range' n (64 - n) := by
    rw [List.range_eq_range', List.range_eq_range']
    have := List.range'_append (s := 0) (m := n) (n := 64 - n) (step := 1)
    rw [Nat.one_mul, Nat.zero_add] at this
    rw [this]; congr 1; omega
  rw [e64, List.find?_append]
  have h1 : (List.range n).find? (fun x => tb left x && good n r left x) = (List.range n).find? (free n r out) := by
    apply find_congr
    intro j hj
    have hjn := List.mem_range.mp hj
    rw [hb j, decide_eq_true hjn, Bool.true_and]
    unfold good free lft
    congr 2
    apply anyB_congr
    intro i hi
    rw [hb i, decide_eq_true hi, Bool.true_and]; rfl
  have h2 : (List.range' n (64 - n)).find? (fun x => tb left x && good n r left x) = none := by
    rw [List.find?_eq_none]
    intro j hj
    have := List.mem_range'.mp hj
    obtain ⟨i, _, rfl⟩ := this
    rw [hb, decide_eq_false (by omega)]; simp
  rw [h1, h2]
  cases (List.range n).find? (free n r out) <;> rfl

theorem tp_l0 (r : List Int) (n : Nat) (hn : n ≤ 64) (hr : IsRel n r) : ∀ (d k : Nat) (left : Int) (out : List Nat), U left → (∀ j, tb left j = (decide (j < n) && lft out j)) → cntF (lft out) n = d → out.length + d ≤ 64 →
    relation_Topological.l0 (d * 66 + 1 + k) (transC n r) left (castL out) = some (tell (topoS n r d out)) := by
  intro d
  induction d with
  | zero =>
    intro k left out hl hb hd ho
    have h0 : left = 0 := by
      apply (left_zero hl hn (fun j hj => by rw [hb j] at hj; simp at hj; exact hj.1)).mpr
      rw [← hd]
      exact cntF_congr n (fun i hi => by rw [hb i, decide_eq_true hi, Bool.true_and])
    rw [show 0 * 66 + 1 + k = k + 1 by omega]
    simp only [relation_Topological.l0]
    rw [if_pos h0]; rfl
  | succ d ih =>
    intro k left out hl hb hd ho
    have hb' : ∀ j, tb left j = true → j < n := fun j hj => by rw [hb j] at hj; simp at hj; exact hj.1
    have h0 : ¬ left = 0 := by
      intro h
      have := (left_zero hl hn hb').mp h
      have e : cntF (tb left) n = cntF (lft out) n := cntF_congr n (fun i hi => by rw [hb i, decide_eq_true hi, Bool.true_and])
      omega
    have hml := members_len left
    rw [show (d + 1) * 66 + 1 + k = ((members left).length + 1 + (d * 66 + 1 + (k + 64 - (members left).length))) + 1 by omega]
    simp only [relation_Topological.l0]
    rw [if_neg h0, tp_l1 r n hn hr left hl hb' (castL out) (by simp [castL]; omega) _ _ left hl rfl hb', find_members hn hb]
    unfold topoS
    split
    · rename_i he
      rw [he]; rfl
    · rename_i j he
      rw [he]
      have hj : j < n := List.mem_range.mp (List.mem_of_find?_eq_some he)
      have hlj := free_lft (List.find?_some he)
      have us : U (shl .u64 1 (j : Int)) := U_shl (by omega) (by omega)
      have hidx : (members left).findIdx (good n r left) ≤ (members left).length := List.findIdx_le_length
      have hc : castL out ++ [(j : Int)] = castL (out ++ [j]) := by simp [castL]
      rw [hc]
      have hfu : (members left).length + (d * 66 + 1 + (k + 64 - (members left).length)) - (members left).findIdx (good n r left) = d * 66 + 1 + (k + 64 - (members left).findIdx (good n r left)) := by omega
      rw [hfu]
      refine ih _ _ (out ++ [j]) (U_andNot hl us) ?_ (by have := cntF_step hj hlj; omega) (by simp; omega)
      intro x
      rw [tb_andNot hl us, hb x, tb_shl (by omega) (by omega), Int.toNat_natCast, lft_append, Bool.and_assoc]
      simp

theorem topo_eq (r : List Int) (hu : AllU r) (hv : vb r = true) (K : Nat) (hK : 5000 ≤ K) : relation_Topological.f K r = some (tell (topoS r.length r r.length [])) := by
  have hn := vb_len hv
  have hr := is_of hu hv
  unfold relation_Topological.f
  rw [valid_eq r hu K (by omega), hv, Option.bind_some, if_pos rfl, transpose_eq r hu hv K hK, Option.bind_some, mask_eq hn, Option.bind_some]
  obtain ⟨k, rfl⟩ : ∃ k, K = (r.length * 66 + 1 + k) + 1 := ⟨K - (r.length * 66 + 2), by omega⟩
  have hp := pow_le hn
  have h1 := pow_pos' r.length
  have main : ∀ left : Int, left = (((2 ^ r.length - 1 : Nat)) : Int) → relation_Topological.j0 ((r.length * 66 + 1 + k) + 1) (transC r.length r) left = some (tell (topoS r.length r r.length [])) := by
    intro left e
    subst e
    simp only [relation_Topological.j0]
    have := tp_l0 r r.length hn hr r.length k (((2 ^ r.length - 1 : Nat)) : Int) [] (U_nat (by omega)) (fun j => by rw [tb_ones hn]; unfold lft; simp) (cntF_nil _) (by simpa using hn)
    exact this
  by_cases h0 : (r.length : Int) = 0
  · rw [if_pos h0]
    apply main
    have : r.length = 0 := by omega
    rw [this]; rfl
  · rw [if_neg h0]
    exact main _ rfl
theorem topo_bad (r : List Int) (hu : AllU r) (hv : vb r = false) (K : Nat) (hK : 5000 ≤ K) : relation_Topological.f K r = some ([], false) := by
  unfold relation_Topological.f
  rw [valid_eq r hu K (by omega), hv, Option.bind_some, if_neg (by decide)]
end Go.Proofs.YtndpeoladndepaaDoor.RelationAcyclicRTopo
