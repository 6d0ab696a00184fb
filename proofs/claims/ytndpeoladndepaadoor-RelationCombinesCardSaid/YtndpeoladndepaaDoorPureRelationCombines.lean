/- The pure statement of RelationCombines: the program's union, intersection and converse are what the document says, row by row, and have no rows where the lists are no relations on as many points. Conditions: those of the given statement alone. -/
import Derived.Test.YtndpeoladndepaaDoorRelationCombinesRUnion
import Derived.Test.YtndpeoladndepaaDoorRelationCombinesRMeet
import Derived.Test.YtndpeoladndepaaDoorRelationCombinesRTrans
import Derived.Test.YtndpeoladndepaaDoorRelationCombinesRRefTrans
import Derived.Test.YtndpeoladndepaaDoorRelationCombinesRPair
import Derived.Test.YtndpeoladndepaaDoorRelationCombinesRVb
import Derived.Test.YtndpeoladndepaaDoorRelationCombinesRAwake
import Derived.Test.YtndpeoladndepaaDoorPRelationCombinesx5
namespace Go.Proofs.YtndpeoladndepaaDoor.Pure
set_option linter.all false
open Go Go.RowKit Go.Proofs.YtndpeoladndepaaDoor.PRelationCombines Go.Proofs.YtndpeoladndepaaDoorW.PrintWords Go.Proofs.YtndpeoladndepaaDoorW.PrintLast Go.Proofs.YtndpeoladndepaaDoor.Bit64 Go.Proofs.YtndpeoladndepaaDoor.Base Go.Proofs.YtndpeoladndepaaDoor.Warsh Go.Proofs.YtndpeoladndepaaDoor.Ctz Go.Proofs.YtndpeoladndepaaDoor.RelOps Go.Proofs.YtndpeoladndepaaDoor.RelationCombinesRValid Go.Proofs.YtndpeoladndepaaDoor.RelationCombinesRUnion Go.Proofs.YtndpeoladndepaaDoor.RelationCombinesRMeet Go.Proofs.YtndpeoladndepaaDoor.RelationCombinesRTrans Go.Proofs.YtndpeoladndepaaDoor.RelationCombinesRRefTrans Go.Proofs.YtndpeoladndepaaDoor.RelationCombinesRPair Go.Proofs.YtndpeoladndepaaDoor.RelationCombinesRVb Go.Proofs.YtndpeoladndepaaDoor.RelationCombinesRSame Go.Proofs.YtndpeoladndepaaDoor.RelationCombinesRClos Go.Proofs.YtndpeoladndepaaDoor.RelationCombinesRAwake

theorem comb_loop (a b u m : List Int) (hlu : u.length = a.length) (hlm : m.length = a.length) (hlb : a.length = b.length) (hn : a.length ≤ 64)
    (hu : ∀ i, i < a.length → u.getD i 0 = Go.bits .or .u64 (a.getD i 0) (b.getD i 0)) (hm : ∀ i, i < a.length → m.getD i 0 = Go.bits .and .u64 (a.getD i 0) (b.getD i 0)) : ∀ (d i k : Nat), i + d = a.length →
    semigrouplaw02_RelationCombines.l0 (d + 1 + (5000 + k)) a b u m (a.length : Int) (i : Int) = some true := by
  intro d
  induction d with
  | zero =>
    intro i k h
    rw [show 0 + 1 + (5000 + k) = (5000 + k) + 1 by omega]
    simp only [semigrouplaw02_RelationCombines.l0]
    rw [if_neg (by omega), awake_true (5000 + k) (by unfold big; omega)]; rfl
  | succ d ih =>
    intro i k h
    rw [show d + 1 + 1 + (5000 + k) = (d + 1 + (5000 + k)) + 1 by omega]
    simp only [semigrouplaw02_RelationCombines.l0]
    have e : ∀ c : List Int, rd c (i : Int) = c.getD i 0 := fun c => by unfold rd; rw [Int.toNat_natCast]
    rw [if_pos (by omega), if_pos (by omega), if_pos (by omega), if_pos (by omega), if_pos (by omega), e, e, e, e, if_pos (hu i (by omega)), if_pos (by omega), if_pos (hm i (by omega)), wrap64_succ (by omega)]
    exact ih (i + 1) k (by omega)
theorem getD_map (v : Nat → Int) (n i : Nat) (hi : i < n) : ((List.range n).map v).getD i 0 = v i := by
  rw [List.getD_eq_getElem?_getD, List.getElem?_map, List.getElem?_range hi]; rfl
theorem RelationCombines : semigrouplaw02_RelationCombines.Pure := by
  intro a b _ _ ha _ _ hb
  have ua := AllU.of_wf ha
  have ub := AllU.of_wf hb
  refine ⟨6000, ?_⟩
  unfold semigrouplaw02_RelationCombines.f
  rw [pair_eq a b ua ub 6000 (by decide), awake_true 6000 (by decide), rvalid_eq a ua 6000 (by decide)]
  cases va : vb a with
  | false =>
    have hp : (decide (a.length = b.length) && (vb a && vb b)) = false := by rw [va]; simp
    rw [union_bad a b ua ub hp 6000 (by decide), meet_bad a b ua ub hp 6000 (by decide), transpose_bad a ua va 6000 (by decide)]
    simp
  | true =>
    have hn := vb_len va
    have ra := is_of ua va
    rw [transpose_eq a ua va 6000 (by decide), rtrans_eq a a.length hn ra 6000 (by decide)]
    simp only [Option.bind_some, if_true]
    rw [same_eq _ _ (by unfold transC; rw [mkRel_len]; exact hn) 6000 (by decide)]
    cases hp : (decide (a.length = b.length) && (vb a && vb b)) with
    | false =>
      rw [va] at hp
      have hp' : (decide (a.length = b.length) && (vb a && vb b)) = false := by rw [va]; exact hp
      rw [union_bad a b ua ub hp' 6000 (by decide), meet_bad a b ua ub hp' 6000 (by decide)]
      simp only [Option.bind_some, hp]
      simp
    | true =>
      have hp' := hp
      rw [va] at hp
      simp only [Bool.and_eq_true, decide_eq_true_eq] at hp'
      obtain ⟨hl, _, vb'⟩ := hp'
      rw [union_eq a b ua ub va vb' hl 6000 (by decide), meet_eq a b ua ub va vb' hl 6000 (by decide)]
      have l1 : (unionC a.length a b).length = a.length := mkRel_len _ _
      have l2 : (meetC a.length a b).length = a.length := mkRel_len _ _
      have q := comb_loop a b (unionC a.length a b) (meetC a.length a b) l1 l2 hl hn
        (fun i hi => by rw [← union_map a b ua ub va hn vb' hl, getD_map _ _ _ hi]) (fun i hi => by rw [← meet_map a b ua ub va hn vb' hl, getD_map _ _ _ hi]) a.length 0 (998 - a.length) (by omega)
      rw [show a.length + 1 + (5000 + (998 - a.length)) = 5999 by omega, show ((0 : Nat) : Int) = 0 from rfl] at q
      rw [va] at *
      simp only [Option.bind_some, hp, decide_true, if_true]
      rw [l1, if_pos rfl, l2]
      have : ((a.length : Int) != (a.length : Int)) = false := by simp
      rw [this, show (6000 : Nat) = 5999 + 1 from rfl]
      simp only [semigrouplaw02_RelationCombines.j0]
      rw [if_neg (by decide), q]
end Go.Proofs.YtndpeoladndepaaDoor.Pure
