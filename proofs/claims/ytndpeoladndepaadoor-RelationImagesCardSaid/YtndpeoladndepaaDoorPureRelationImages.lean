/- The pure statement of RelationImages: the program lists a set's points as the reference does, and its image of a set is the reference's, or none where the list is no relation. Conditions: those of the given statement alone. -/
import Derived.Test.YtndpeoladndepaaDoorRelationImagesRMem
import Derived.Test.YtndpeoladndepaaDoorRelationImagesRLSame
import Derived.Test.YtndpeoladndepaaDoorRelationImagesRRefImg
import Derived.Test.YtndpeoladndepaaDoorRelationImagesRImg
import Derived.Test.YtndpeoladndepaaDoorRelationImagesRAwake
import Derived.Test.YtndpeoladndepaaDoorPRelationImagesx3
namespace Go.Proofs.YtndpeoladndepaaDoor.Pure
set_option linter.all false
open Go Go.RowKit Go.Proofs.YtndpeoladndepaaDoor.PRelationImages Go.Proofs.YtndpeoladndepaaDoorW.PrintWords Go.Proofs.YtndpeoladndepaaDoorW.PrintLast Go.Proofs.YtndpeoladndepaaDoor.Bit64 Go.Proofs.YtndpeoladndepaaDoor.Base Go.Proofs.YtndpeoladndepaaDoor.Warsh Go.Proofs.YtndpeoladndepaaDoor.Ctz Go.Proofs.YtndpeoladndepaaDoor.RelOps Go.Proofs.YtndpeoladndepaaDoor.RelationImagesRValid Go.Proofs.YtndpeoladndepaaDoor.RelationImagesRMem Go.Proofs.YtndpeoladndepaaDoor.RelationImagesRLSame Go.Proofs.YtndpeoladndepaaDoor.RelationImagesRRefImg Go.Proofs.YtndpeoladndepaaDoor.RelationImagesRImg Go.Proofs.YtndpeoladndepaaDoor.RelationImagesRClos Go.Proofs.YtndpeoladndepaaDoor.RelationImagesRAwake

theorem RelationImages : semigrouplaw02_RelationImages.Pure := by
  intro l s hm _ hw hs
  refine ⟨big, ?_⟩
  have hu := AllU.of_wf hw
  have us := U_of_wf hs
  unfold semigrouplaw02_RelationImages.f
  rw [mem_eq s us big (by decide), rmem_eq s us big (by decide), awake_true big (Nat.le_refl _)]
  simp only [Option.bind_some]
  rw [lsame_eq _ _ (by rw [cast_len]; exact members_len s) big (by decide), rvalid_eq l hu big (by decide)]
  unfold relation_Image.f
  rw [valid_eq l hu big (by decide)]
  cases hv : vb l with
  | false => simp
  | true =>
    rw [image_eq l hu (vb_len hv) s us big (by decide), rimg_eq l hu (vb_len hv) s us big (by decide)]
    simp
end Go.Proofs.YtndpeoladndepaaDoor.Pure
