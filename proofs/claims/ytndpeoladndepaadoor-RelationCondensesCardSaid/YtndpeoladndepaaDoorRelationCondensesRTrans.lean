/- What the program's converse computes: the converse of a valid relation, else no rows. Condition: lists of 64-bit numbers. -/
import Derived.Test.YtndpeoladndepaaDoorRelationCondensesRTz
import Derived.Test.YtndpeoladndepaaDoorRelationCondensesRValid
import Derived.Test.YtndpeoladndepaaDoorPRelationCondensesx6
namespace Go.Proofs.YtndpeoladndepaaDoor.RelationCondensesRTrans
set_option linter.all false
open Go Go.RowKit Go.Proofs.YtndpeoladndepaaDoor.PRelationCondenses Go.Proofs.YtndpeoladndepaaDoorW.PrintWords Go.Proofs.YtndpeoladndepaaDoorW.PrintLast Go.Proofs.YtndpeoladndepaaDoor.Bit64 Go.Proofs.YtndpeoladndepaaDoor.Base Go.Proofs.YtndpeoladndepaaDoor.Warsh Go.Proofs.YtndpeoladndepaaDoor.Ctz Go.Proofs.YtndpeoladndepaaDoor.RelOps Go.Proofs.YtndpeoladndepaaDoor.RelationCondensesRValid Go.Proofs.YtndpeoladndepaaDoor.RelationCondensesRTz
theorem rd_nat (c : List Int) (i : Nat) : rd c (i : Int) = c.getD i 0 := by unfold rd; rw [Int.toNat_natCast]
theorem isRel_of {l : List Int} (hu : AllU l) (hv : vb l = true) : IsRel l.length l := ⟨rfl, hu, fun i j hj => (lt_pow_iff (hu.getD i)).mp (vb_row hv i) j hj⟩

def tstep (i : Nat) (c : List Int) (j : Nat) : List Int := addB j i c
theorem tfold_spec (n i : Nat) (hi : i < 64) : ∀ (L : List Nat) (c : List Int), c.length = n → AllU c → (∀ j ∈ L, j < n) →
    (L.foldl (tstep i) c).length = n ∧ AllU (L.foldl (tstep i) c) ∧ ∀ x y, rel (L.foldl (tstep i) c) x y = (rel c x y || (L.contains x && decide (y = i))) := by
  intro L
  induction L with
  | nil => intro c h1 h2 _; exact ⟨h1, h2, fun x y => by simp⟩
  | cons j L ih =>
    intro c h1 h2 h3
    have hj : j < n := h3 j (List.mem_cons_self ..)
    obtain ⟨g1, g2, g3⟩ := ih (addB j i c) (by rw [addB_len, h1]) (addB_u h2 j hi) (fun z hz => h3 z (List.mem_cons_of_mem _ hz))
    refine ⟨g1, g2, fun x y => ?_⟩
    rw [List.foldl_cons]
    show rel (L.foldl (tstep i) (addB j i c)) x y = _
    rw [g3 x y, addB_rel h2 (by omega) hi, List.contains_cons]
    by_cases e : x = j
    · subst e; simp; cases rel c x y <;> cases decide (y = i) <;> simp
    · have : (x == j) = false := beq_eq_false_iff_ne.mpr e
      rw [this, decide_eq_false e]; simp

theorem trans_l1 (r : List Int) (n i : Nat) (hi : i < n) (hn : n ≤ 64) : ∀ (m k : Nat) (c : List Int) (s : Int), U s → (members s).length = m → c.length = n → (∀ j, tb s j = true → j < n) →
    relation_Transpose.l1 (m + 1 + k) r c (i : Int) s (n : Int) (i : Int) = relation_Transpose.l0 k r ((members s).foldl (tstep i) c) (n : Int) (((i + 1 : Nat)) : Int) := by
  intro m
  induction m with
  | zero =>
    intro k c s hs hm hc hb
    have e : s = 0 := by
      apply eq_zero hs
      intro j hj
      cases ht : tb s j with
      | false => rfl
      | true =>
        have : j ∈ members s := mem_members.mpr ⟨hj, ht⟩
        rw [List.eq_nil_of_length_eq_zero hm] at this
        cases this
    subst e
    rw [show 0 + 1 + k = k + 1 by omega]
    simp only [relation_Transpose.l1]
    rw [if_pos trivial, members_zero, wrap64_succ (by omega)]; rfl
  | succ m ih =>
    intro k c s hs hm hc hb
    have hne : s ≠ 0 := by
      intro e; subst e; rw [members_zero] at hm; cases hm
    obtain ⟨j, hj, h1, h2⟩ := lowest hs hne
    have hst := members_step hs hj h1 h2
    have hjr := hb j h1
    rw [show m + 1 + 1 + k = (m + 1 + k) + 1 by omega]
    simp only [relation_Transpose.l1]
    rw [if_neg hne, tz_low hs hne hj h1 h2]
    rw [Option.bind_some]
    rw [if_pos (by omega), if_pos (by omega), wrap_idx (by omega) (by omega), if_pos (by omega), hst, List.foldl_cons, rd_nat, Int.toNat_natCast]
    exact ih k _ _ (U_and hs U_pred) (by rw [hst] at hm; simpa using hm) (by simp; exact hc) (fun x hx => hb x (by rw [and_pred hs h1 h2] at hx; simp at hx; exact hx.1))

theorem trans_l0 (r : List Int) (hr : IsRel r.length r) (hn : r.length ≤ 64) : ∀ (d i k : Nat) (c : List Int), i + d = r.length → c.length = r.length →
    ∃ k', relation_Transpose.l0 (d * 66 + 1 + k) r c (r.length : Int) (i : Int) = some (iter (fun i c => (members (r.getD i 0)).foldl (tstep i) c) d i c) ∧ k' = k := by
  intro d
  induction d with
  | zero =>
    intro i k c h hc
    refine ⟨k, ?_, rfl⟩
    rw [show 0 * 66 + 1 + k = k + 1 by omega]
    simp only [relation_Transpose.l0]
    rw [if_neg (by omega)]; rfl
  | succ d ih =>
    intro i k c h hc
    refine ⟨k, ?_, rfl⟩
    have hi : i < r.length := by omega
    have hl := members_len (r.getD i 0)
    rw [show (d + 1) * 66 + 1 + k = ((members (r.getD i 0)).length + 1 + (d * 66 + 1 + (k + 64 - (members (r.getD i 0)).length))) + 1 by omega]
    simp only [relation_Transpose.l0]
    rw [if_pos (by omega), if_pos (by omega), if_pos (by omega), rd_nat]
    have hmem : ∀ j, tb (r.getD i 0) j = true → j < r.length := fun j hj => (hr.lt (i := i) (j := j) hj).2
    rw [trans_l1 r r.length i hi hn _ _ c _ (hr.u.getD i) rfl hc hmem, iter_succ]
    obtain ⟨_, h1, _⟩ := ih (i + 1) (k + 64 - (members (r.getD i 0)).length) ((members (r.getD i 0)).foldl (tstep i) c) (by omega) (tfold_spec r.length i (by omega) (members (r.getD i 0)) c hc
      |> fun f => by
        have : ∀ (L : List Nat) (c : List Int), (L.foldl (tstep i) c).length = c.length := by
          intro L
          induction L with
          | nil => intro c; rfl
          | cons x L ihL => intro c; rw [List.foldl_cons, ihL]; exact addB_len x i c
        rw [this, hc])
    exact h1

theorem trans_sem (r : List Int) (hr : IsRel r.length r) (hn : r.length ≤ 64) :
    iter (fun i c => (members (r.getD i 0)).foldl (tstep i) c) r.length 0 (List.replicate r.length 0) = transC r.length r := by
  have H := iter_inv (f := fun i c => (members (r.getD i 0)).foldl (tstep i) c) (n := r.length)
    (fun i c => c.length = r.length ∧ AllU c ∧ ∀ x y, x < r.length → rel c x y = (decide (y < i) && rel r y x))
    (fun i c hi ⟨h1, h2, h3⟩ => by
      have hmem : ∀ j ∈ members (r.getD i 0), j < r.length := fun j hj => (hr.lt (i := i) (j := j) (mem_members.mp hj).2).2
      obtain ⟨g1, g2, g3⟩ := tfold_spec r.length i (by omega) (members (r.getD i 0)) c h1 h2 hmem
      refine ⟨g1, g2, fun x y hx => ?_⟩
      rw [g3 x y, h3 x y hx]
      have hc : (members (r.getD i 0)).contains x = rel r i x := by
        apply bool_eq
        rw [List.contains_iff_mem, mem_members]
        exact ⟨fun h => h.2, fun h => ⟨by omega, h⟩⟩
      rw [hc]
      by_cases e : y = i
      · subst e; rw [decide_eq_true (show y = y from rfl), decide_eq_true (Nat.lt_succ_self y), decide_eq_false (Nat.lt_irrefl y)]; simp
      · rw [decide_eq_false e]
        by_cases hy : y < i
        · rw [decide_eq_true hy, decide_eq_true (show y < i + 1 by omega)]; simp
        · rw [decide_eq_false hy, decide_eq_false (show ¬ y < i + 1 by omega)]; simp)
    r.length 0 (List.replicate r.length 0) (by omega) ⟨by simp, AllU.replicate _, fun x y _ => by rw [rel_replicate]; simp⟩
  exact mkRel_of hn H.1 H.2.1 _ (fun i hi j => H.2.2 i j hi)

theorem transpose_eq (r : List Int) (hu : AllU r) (hv : vb r = true) (K : Nat) (hK : 5000 ≤ K) : relation_Transpose.f K r = some (transC r.length r) := by
  have hn := vb_len hv
  have hr := isRel_of hu hv
  unfold relation_Transpose.f
  rw [valid_eq r hu K (by omega), hv]
  rw [Option.bind_some]
  rw [if_pos rfl, if_pos (by omega), if_pos (by omega), Int.toNat_natCast]
  obtain ⟨k, rfl⟩ : ∃ k, K = r.length * 66 + 1 + k := ⟨K - (r.length * 66 + 1), by omega⟩
  obtain ⟨_, h1, _⟩ := trans_l0 r hr hn r.length 0 k (List.replicate r.length 0) (by omega) (by simp)
  rw [show ((0 : Nat) : Int) = 0 from rfl] at h1
  rw [h1, trans_sem r hr hn]
theorem transpose_bad (r : List Int) (hu : AllU r) (hv : vb r = false) (K : Nat) (hK : 5000 ≤ K) : relation_Transpose.f K r = some [] := by
  unfold relation_Transpose.f
  rw [valid_eq r hu K (by omega), hv]
  rw [Option.bind_some]
  rw [if_neg (by decide)]
end Go.Proofs.YtndpeoladndepaaDoor.RelationCondensesRTrans
