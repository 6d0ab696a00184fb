/- What the library's TrailingZeros64 answers, by a walk of its text, where the table of de Bruijn that it reads holds what start-up lays there. Condition: 'Glob w', the table's 64 cells read as laid. -/
import Derived.Test.YtndpeoladndepaaDoorPRelationCondensesx0
import Derived.Test.YtndpeoladndepaaDoorCtz
namespace Go.Proofs.YtndpeoladndepaaDoor.PRelationCondenses
set_option linter.all false
open Go.RowKit Go.Proofs.YtndpeoladndepaaDoorW.PrintWords Go.Proofs.YtndpeoladndepaaDoorW.PrintLast Go.Proofs.YtndpeoladndepaaDoorW.PrintMore Go.Proofs.YtndpeoladndepaaDoor.Ctz
set_option linter.unusedVariables false

/-- The table's cells. -/
def Glob (w : World) : Prop := ∀ i, i < 64 → w.cell? ⟨0, i, none⟩ = some (.int .u8 (TZ.getD i 0))
theorem Glob.below {w w' : World} (h : Glob w) (hb : Below w.heap.size w w') : Glob w' := fun i hi => (hb.cell (World.block_lt_of_cell? w _ (h i hi))).trans (h i hi)
theorem Glob.drewN {w : World} (h : Glob w) (n : Nat) : Glob (w.drewN n) := fun i hi => by simpa using h i hi
theorem Glob.drew {w : World} (h : Glob w) : Glob w.drew := fun i hi => by simpa using h i hi

/-- The place in the table that the program computes. -/
def tzIdx (a0 : Int) : Int := IntKind.u64.wrap (Go.bits .and .u64 a0 (IntKind.u64.wrap (-a0)) * 285870213051353865) / 288230376151711744
theorem tzIdx_lo (a0 : Int) : 0 ≤ tzIdx a0 := by
  unfold tzIdx; rw [IntKind.wrap_u64]; omega
theorem tzIdx_hi (a0 : Int) : tzIdx a0 < 64 := by
  unfold tzIdx; rw [IntKind.wrap_u64]; omega
def bits_TrailingZeros64.f (a0 : Int) : Option Int := if a0 = 0 then some 64 else some (TZ.getD (tzIdx a0).toNat 0)
theorem tz_range : ∀ i, i < 64 → 0 ≤ TZ.getD i 0 ∧ TZ.getD i 0 < 64 := by decide +kernel

set_option maxHeartbeats 8000000 in
set_option maxRecDepth 100000 in
theorem bits_TrailingZeros64.calls (a0 : Int) (r : Int) (w : World) (hG : Glob w) (h : bits_TrailingZeros64.f a0 = some r) :
    Calls Tryd.prog 42 #[.int .u64 a0] w fun e w' => e = .returned (.int .i64 r) ∧ Drawn0 w w' := by
  unfold bits_TrailingZeros64.f at h
  by_cases c : a0 = 0
  · rw [if_pos c] at h
    obtain rfl := Option.some.inj h
    subst c
    go_enter Tryd.func42, Tryd.ntmps42
    go_wp2
    go_ret
    exact ⟨rfl, Drawn0.refl _⟩
  · rw [if_neg c] at h
    obtain rfl := Option.some.inj h
    have cb : (a0 == 0) = false := beq_eq_false_iff_ne.mpr c
    have h1 := tzIdx_lo a0
    have h2 := tzIdx_hi a0
    have hc := hG (tzIdx a0).toNat (by omega)
    have hr := tz_range (tzIdx a0).toNat (by omega)
    obtain ⟨v, hv⟩ : ∃ v, v = TZ.getD (tzIdx a0).toNat 0 := ⟨_, rfl⟩
    rw [← hv] at hc hr ⊢
    clear hG hv
    unfold tzIdx at h1 h2 hc
    go_enter Tryd.func42, Tryd.ntmps42
    go_wp2
    go_ret
    exact ⟨by first | rfl | (simp; done) | (simp [*]; done), by repeat (first | exact Drawn0.refl _ | apply Drawn0.step)⟩
end Go.Proofs.YtndpeoladndepaaDoor.PRelationCondenses
