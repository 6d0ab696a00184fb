/- What the program's product computes: the product of the relations where both are valid and of as many points, else no rows. Condition: lists of 64-bit numbers. -/
import Derived.Test.YtndpeoladndepaaDoorRelationLeastRImg
import Derived.Test.YtndpeoladndepaaDoorRelationLeastRBoth
import Derived.Test.YtndpeoladndepaaDoorPRelationLeastx4
namespace Go.Proofs.YtndpeoladndepaaDoor.RelationLeastRComp
set_option linter.all false
open Go Go.RowKit Go.Proofs.YtndpeoladndepaaDoor.PRelationLeast Go.Proofs.YtndpeoladndepaaDoorW.PrintWords Go.Proofs.YtndpeoladndepaaDoorW.PrintLast Go.Proofs.YtndpeoladndepaaDoor.Bit64 Go.Proofs.YtndpeoladndepaaDoor.Base Go.Proofs.YtndpeoladndepaaDoor.Warsh Go.Proofs.YtndpeoladndepaaDoor.Ctz Go.Proofs.YtndpeoladndepaaDoor.RelOps Go.Proofs.YtndpeoladndepaaDoor.RelationLeastRValid Go.Proofs.YtndpeoladndepaaDoor.RelationLeastRTz Go.Proofs.YtndpeoladndepaaDoor.RelationLeastRImg Go.Proofs.YtndpeoladndepaaDoor.RelationLeastRBoth

theorem comp_loop (a b : List Int) (ha : AllU a) (hb : AllU b) (hn : b.length ≤ 64) (hl : a.length = b.length) : ∀ (d i k : Nat) (c : List Int), i + d = a.length → c.length = a.length →
    relation_Compose.l0 (d + 66 + k) a b c (a.length : Int) (i : Int) = some (iter (fillV fun i => imgC b (a.getD i 0)) d i c) := by
  intro d
  induction d with
  | zero =>
    intro i k c h hc
    rw [show 0 + 66 + k = (65 + k) + 1 by omega]
    simp only [relation_Compose.l0]
    rw [if_neg (by omega)]; rfl
  | succ d ih =>
    intro i k c h hc
    rw [show d + 1 + 66 + k = (d + 66 + k) + 1 by omega]
    simp only [relation_Compose.l0]
    have er : rd a (i : Int) = a.getD i 0 := by unfold rd; rw [Int.toNat_natCast]
    rw [if_pos (by omega), if_pos (by omega), if_pos (by omega), er, image_eq b hb hn _ (ha.getD i) _ (by omega)]
    rw [Option.bind_some]
    rw [if_pos (by omega), Int.toNat_natCast, wrap64_succ (by omega), iter_succ]
    exact ih (i + 1) k _ (by omega) (by simp; exact hc)

theorem compose_eq (a b : List Int) (ha : AllU a) (hb : AllU b) (va : vb a = true) (vb' : vb b = true) (hl : a.length = b.length) (K : Nat) (hK : 200 ≤ K) : relation_Compose.f K a b = some (compC a.length a b) := by
  have hn := vb_len va
  have hnb := vb_len vb'
  unfold relation_Compose.f
  rw [both_eq a b ha hb K (by omega), va, vb', decide_eq_true hl]
  rw [Option.bind_some]
  rw [if_pos (by decide), if_pos (by omega), if_pos (by omega), Int.toNat_natCast]
  obtain ⟨k, rfl⟩ : ∃ k, K = a.length + 66 + k := ⟨K - (a.length + 66), by omega⟩
  have := comp_loop a b ha hb hnb hl a.length 0 k (List.replicate a.length 0) (by omega) (by simp)
  rw [show ((0 : Nat) : Int) = 0 from rfl] at this
  rw [this, fillV_all _ _ _ (by simp)]
  congr 1
  unfold compC
  apply mkRel_map hn (fun i _ => imgC_u _ _)
  intro i hi j hj
  rw [imgC_tb _ _ hj, ← hl]
  by_cases hjn : j < a.length
  · rw [decide_eq_true hjn, Bool.true_and]; rfl
  · rw [decide_eq_false hjn, Bool.false_and]
    apply bool_eq
    rw [anyB_iff]
    constructor
    · rintro ⟨x, hx, h⟩
      simp at h
      have := (isRel_of hb vb').out x j (by omega)
      rw [this] at h
      exact absurd h.2 (by decide)
    · intro h; cases h

theorem compose_bad (a b : List Int) (ha : AllU a) (hb : AllU b) (h : (decide (a.length = b.length) && (vb a && vb b)) = false) (K : Nat) (hK : 200 ≤ K) : relation_Compose.f K a b = some [] := by
  unfold relation_Compose.f
  rw [both_eq a b ha hb K (by omega), h]
  rw [Option.bind_some]
  rw [if_neg (by decide)]
end Go.Proofs.YtndpeoladndepaaDoor.RelationLeastRComp
