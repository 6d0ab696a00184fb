/- The pure statement of RelationSteps: the image under a product is the image of the image, and images keep unions. Conditions: those of the given statement alone. -/
import Derived.Test.YtndpeoladndepaaDoorRelationStepsRComp
import Derived.Test.YtndpeoladndepaaDoorRelationStepsRPair
import Derived.Test.YtndpeoladndepaaDoorRelationStepsRImg
import Derived.Test.YtndpeoladndepaaDoorRelationStepsRAwake
import Derived.Test.YtndpeoladndepaaDoorPRelationStepsx3
namespace Go.Proofs.YtndpeoladndepaaDoor.Pure
set_option linter.all false
open Go Go.RowKit Go.Proofs.YtndpeoladndepaaDoor.PRelationSteps Go.Proofs.YtndpeoladndepaaDoorW.PrintWords Go.Proofs.YtndpeoladndepaaDoorW.PrintLast Go.Proofs.YtndpeoladndepaaDoor.Bit64 Go.Proofs.YtndpeoladndepaaDoor.Base Go.Proofs.YtndpeoladndepaaDoor.Warsh Go.Proofs.YtndpeoladndepaaDoor.Ctz Go.Proofs.YtndpeoladndepaaDoor.RelOps Go.Proofs.YtndpeoladndepaaDoor.RelationStepsRValid Go.Proofs.YtndpeoladndepaaDoor.RelationStepsRBoth Go.Proofs.YtndpeoladndepaaDoor.RelationStepsRComp Go.Proofs.YtndpeoladndepaaDoor.RelationStepsRPair Go.Proofs.YtndpeoladndepaaDoor.RelationStepsRImg Go.Proofs.YtndpeoladndepaaDoor.RelationStepsRClos Go.Proofs.YtndpeoladndepaaDoor.RelationStepsRAwake

theorem vb_of {n : Nat} {l : List Int} (h : IsRel n l) (hn : n ≤ 64) : vb l = true := by
  unfold vb
  rw [h.len, decide_eq_true hn, Bool.true_and, List.all_eq_true]
  intro x hx
  obtain ⟨i, hi, rfl⟩ := List.getElem_of_mem hx
  rw [decide_eq_true_iff, lt_pow_iff (h.u _ hx)]
  intro j hj
  have := h.out i j hj
  unfold rel at this
  rw [List.getD_eq_getElem?_getD, List.getElem?_eq_getElem hi] at this
  exact this
theorem Image_eq (r : List Int) (hu : AllU r) (hv : vb r = true) (s : Int) (hs : U s) (K : Nat) (hK : big ≤ K) : relation_Image.f K r s = some (imgC r s) := by
  unfold big at hK
  unfold relation_Image.f
  rw [valid_eq r hu K (by omega), hv]
  simp only [Option.bind_some, if_true]
  rw [image_eq r hu (vb_len hv) s hs K (by omega)]; rfl
theorem RelationSteps : semigrouplaw02_RelationSteps.Pure := by
  intro a b s t _ _ ha _ _ hb hs ht
  have ua := AllU.of_wf ha
  have ub := AllU.of_wf hb
  have us := U_of_wf hs
  have ut := U_of_wf ht
  refine ⟨big, ?_⟩
  unfold semigrouplaw02_RelationSteps.f
  rw [pair_eq a b ua ub big (by decide), awake_true big (by decide)]
  cases hp : (decide (a.length = b.length) && (vb a && vb b)) with
  | false => simp
  | true =>
    simp only [Bool.and_eq_true, decide_eq_true_eq] at hp
    obtain ⟨hl, va, vb'⟩ := hp
    have hn := vb_len va
    have rc : IsRel a.length (compC a.length a b) := mkRel_is hn _
    simp only [Option.bind_some, if_true]
    rw [compose_eq a b ua ub va vb' hl big (by decide), Image_eq a ua va s us big (Nat.le_refl _), Image_eq a ua va t ut big (Nat.le_refl _), Image_eq a ua va _ (U_or us ut) big (Nat.le_refl _)]
    simp only [Option.bind_some]
    rw [Image_eq b ub vb' _ (imgC_u a s) big (Nat.le_refl _), Image_eq _ rc.u (vb_of rc hn) s us big (Nat.le_refl _)]
    have e1 : imgC (compC a.length a b) s = imgC b (imgC a s) := by
      apply Go.Proofs.YtndpeoladndepaaDoor.Bit64.ext (imgC_u _ _) (imgC_u _ _)
      intro j hj
      rw [imgC_tb _ _ hj, imgC_tb _ _ hj, rc.len]
      apply bool_eq
      rw [anyB_iff, anyB_iff]
      constructor
      · rintro ⟨i, hi, h⟩
        simp only [Bool.and_eq_true] at h
        have h2 := (rc.lt h.2).2
        have h3 : rel (compC a.length a b) i j = true := h.2
        unfold compC at h3
        rw [mkRel_rel' hn _ hi h2, anyB_iff] at h3
        obtain ⟨k, hk, h4⟩ := h3
        simp only [Bool.and_eq_true] at h4
        refine ⟨k, by omega, ?_⟩
        rw [Bool.and_eq_true, imgC_tb _ _ (by omega), anyB_iff]
        exact ⟨⟨i, hi, by rw [h.1, h4.1]; rfl⟩, h4.2⟩
      · rintro ⟨k, hk, h⟩
        rw [Bool.and_eq_true, imgC_tb _ _ (by omega), anyB_iff] at h
        obtain ⟨⟨i, hi, h1⟩, h2⟩ := h
        simp only [Bool.and_eq_true] at h1
        have hj' : j < a.length := by
          have := ((Go.Proofs.YtndpeoladndepaaDoor.RelationStepsRBoth.isRel_of ub vb').lt h2).2; omega
        refine ⟨i, hi, ?_⟩
        rw [h1.1, Bool.true_and]
        unfold compC
        rw [mkRel_rel' hn _ hi hj', anyB_iff]
        exact ⟨k, by omega, by rw [h1.2, h2]; rfl⟩
    have e2 : imgC a (Go.bits .or .u64 s t) = Go.bits .or .u64 (imgC a s) (imgC a t) := by
      apply Go.Proofs.YtndpeoladndepaaDoor.Bit64.ext (imgC_u _ _) (U_or (imgC_u _ _) (imgC_u _ _))
      intro j hj
      rw [tb_or (imgC_u _ _) (imgC_u _ _), imgC_tb _ _ hj, imgC_tb _ _ hj, imgC_tb _ _ hj]
      apply bool_eq
      rw [Bool.or_eq_true, anyB_iff, anyB_iff, anyB_iff]
      constructor
      · rintro ⟨i, hi, h⟩
        rw [tb_or us ut, Bool.and_eq_true, Bool.or_eq_true] at h
        rcases h.1 with h1 | h1
        · exact .inl ⟨i, hi, by rw [h1, h.2]; rfl⟩
        · exact .inr ⟨i, hi, by rw [h1, h.2]; rfl⟩
      · rintro (⟨i, hi, h⟩ | ⟨i, hi, h⟩)
        · simp only [Bool.and_eq_true] at h
          exact ⟨i, hi, by rw [tb_or us ut, h.1, h.2]; rfl⟩
        · simp only [Bool.and_eq_true] at h
          exact ⟨i, hi, by rw [tb_or us ut, h.1, h.2]; simp⟩
    rw [e1, e2]
    simp
end Go.Proofs.YtndpeoladndepaaDoor.Pure
