/- What the reference's image of a set computes: the union of the rows of the points in the set. Conditions: at most 64 rows of 64-bit numbers, a 64-bit set. -/
import Derived.Test.YtndpeoladndepaaDoorRelationImagesRHas
import Derived.Test.YtndpeoladndepaaDoorPRelationImagesx3
namespace Go.Proofs.YtndpeoladndepaaDoor.RelationImagesRRefImg
set_option linter.all false
open Go Go.RowKit Go.Proofs.YtndpeoladndepaaDoor.PRelationImages Go.Proofs.YtndpeoladndepaaDoorW.PrintWords Go.Proofs.YtndpeoladndepaaDoorW.PrintLast Go.Proofs.YtndpeoladndepaaDoor.Bit64 Go.Proofs.YtndpeoladndepaaDoor.Base Go.Proofs.YtndpeoladndepaaDoor.Warsh Go.Proofs.YtndpeoladndepaaDoor.Ctz Go.Proofs.YtndpeoladndepaaDoor.RelOps Go.Proofs.YtndpeoladndepaaDoor.RelationImagesRHas
def imgStep (r : List Int) (s : Int) (i : Nat) (o : Int) : Int := if tb s i = true then Go.bits .or .u64 o (r.getD i 0) else o
theorem rimg_loop (r : List Int) (hn : r.length ≤ 64) (s : Int) (hs : U s) : ∀ (d i k : Nat) (o : Int), i + d = r.length →
    semigroupref02_Image.l0 (d + 1 + k) r s o (r.length : Int) (i : Int) = some (iter (imgStep r s) d i o) := by
  intro d
  induction d with
  | zero =>
    intro i k o h
    rw [show 0 + 1 + k = k + 1 by omega]
    simp only [semigroupref02_Image.l0]
    rw [if_neg (by omega)]; rfl
  | succ d ih =>
    intro i k o h
    rw [show d + 1 + 1 + k = (d + 1 + k) + 1 by omega]
    simp only [semigroupref02_Image.l0]
    rw [if_pos (by omega), has_eq hs (by omega)]
    rw [Option.bind_some]
    have er : rd r (i : Int) = r.getD i 0 := by unfold rd; rw [Int.toNat_natCast]
    rw [iter_succ, wrap64_succ (by omega), er]
    by_cases hb : tb s i = true
    · rw [if_pos hb, if_pos (by omega), if_pos (by omega), ih (i + 1) k _ (by omega)]
      unfold imgStep; rw [if_pos hb]
    · rw [if_neg hb, ih (i + 1) k _ (by omega)]
      unfold imgStep; rw [if_neg hb]
theorem rimg_eq (r : List Int) (hu : AllU r) (hn : r.length ≤ 64) (s : Int) (hs : U s) (K : Nat) (hK : 65 ≤ K) : semigroupref02_Image.f K r s = some (imgC r s) := by
  unfold semigroupref02_Image.f
  obtain ⟨k, rfl⟩ : ∃ k, K = r.length + 1 + k := ⟨K - (r.length + 1), by omega⟩
  have := rimg_loop r hn s hs r.length 0 k 0 (by omega)
  rw [show ((0 : Nat) : Int) = 0 from rfl] at this
  rw [this]
  congr 1
  have H := iter_inv (f := imgStep r s) (n := r.length)
    (fun i o => U o ∧ ∀ j, tb o j = anyB i fun i => tb s i && rel r i j)
    (fun i o hi ⟨h1, h2⟩ => by
      unfold imgStep
      by_cases hb : tb s i = true
      · rw [if_pos hb]
        exact ⟨U_or h1 (hu.getD i), fun j => by rw [tb_or h1 (hu.getD i), h2 j, anyB_succ, hb, Bool.true_and]; rfl⟩
      · rw [if_neg hb]
        have hf : tb s i = false := by simpa using hb
        exact ⟨h1, fun j => by rw [h2 j, anyB_succ, hf]; simp⟩)
    r.length 0 0 (by omega) ⟨U_zero, fun j => by rw [tb_zero, anyB_zero]⟩
  exact imgC_of H.1 (fun j _ => H.2 j)
end Go.Proofs.YtndpeoladndepaaDoor.RelationImagesRRefImg
