/- ExprRoundTrips: the given statement, by the texts before it. Conditions: none beside those of the given statement. -/
import Derived.Test.YtjofkebiacaciaaRows
import Derived.WalkKit
import Derived.ProofKit
import Derived.OpenShut
import Derived.ShutString
import Derived.ChangeOld
import Derived.Below
import Derived.SizedLaws
import Derived.Test.YtjofkebiacaciaaMExprRoundTrips3
import Derived.Test.YtjofkebiacaciaaMc16
namespace Go.Proofs.Ytjofkebiacaciaa.exprRoundTrips
open Go.ChangeShapes Go.WideShapes Go.ChangeAt Go.RowKit
open Go.ChangeMaps (open_string shut_string)
open Go.Proofs.Ytjofkebiacaciaa.PAll Go.Proofs.Ytjofkebiacaciaa.AllRead24 Go.Proofs.YtjofkebiacaciaaW.PrintWords
set_option linter.all false
theorem own : ownKnob Try.prog.godebug = none := by kernel_rfl
theorem laidOut : laidOutB Try.prog = true := by kernel_rfl
set_option maxRecDepth 100000 in
theorem lifted (os : Os) (started : os.Started) (H : Type) (enc : TypeId × Value → H) :
  ReturnsInHanded {} Try.checked os 5 .any (Rows.exprRoundTripsSpec.pre6 enc Try.prog Try.f5 Rows.exprRoundTripsRow.domain false) (Rows.exprRoundTripsSpec.post enc Try.prog Try.f5 false true false false) := by
 refine returnsInHanded_of_change_sized (C := Try.checked) own started (by kernel_rfl) Try.func5
  (ChangeSpec.witness6 (enc := enc) (C := Try.checked) false ⟨#[], #[.agg #[.int .i64 0, .int .i64 0, .slice none 0 0]], []⟩ 8 (by kernel_rfl) (by kernel_rfl) (by kernel_rfl) (by kernel_rfl)) ?_
 intro W base args ds gs before hval0 hW hcnd hsz0 _
 have hsz : (DataW.weightsEach Try.prog (Try.f5.params.toList ++ Rows.exprRoundTripsSpec.plain.varTypes Try.prog) (ds ++ gs)).all (· ≤ reachBytes) = true := hsz0
 have hval : ∀ (j : Nat) t v, Try.f5.params[j]? = some t → args[j]? = some v → Value.okWide Try.prog W .any base t v := hval0
 have hW' := hW
 obtain ⟨p, q, hA0, hV, rfl, hfz, hnd⟩ := hW
 have hA : DataW.TrodAll enc Try.prog W 0 (fun _ => true) true Try.f5.params.toList args.toList ds p := hA0
 rw [Try.params5] at hA hval hsz
 obtain ⟨v0, vs0, d0, ds0, p0, q0, hargs, rfl, rfl, h0, r0⟩ := trodAll_cons hA
 obtain ⟨rfl, rfl, rfl⟩ := trodAll_nil r0
 obtain rfl : args = #[v0] := by cases args; simp_all
 obtain ⟨rfl, rfl⟩ := trodVars_none hV
 obtain ⟨cs0, rfl, hs0⟩ := okWide_struct Try.underlying24 (hval 0 24 v0 rfl rfl)
 have k0 := h0
 have lt0 : ∀ x ∈ p0, x.block < W.heap.size := by obtain ⟨m, hm⟩ := k0; exact DataW.trod_lt m _ _ _ hm
 obtain ⟨fu0, hf0⟩ := h0
 obtain ⟨e0, hk0, wf0⟩ := read_tree fu0 _ _ hf0
 obtain ⟨A0, c0, hcs0, hl0, hc0⟩ := k24_open hk0
 obtain rfl : cs0 = #[.int .i64 e0.f0, .int .i64 e0.f1, .slice A0 e0.f2.length c0] := by cases cs0; exact congrArg Array.mk hcs0
 clear hA0 hval0 hsz0 hsz
 obtain ⟨kk, hP⟩ := Pure.ExprRoundTrips e0 wf0
 refine (semigrouplaw04_ExprRoundTrips.calls kk e0.f0 e0.f1 A0 c0 e0.f2 true W hc0 hl0 hP).mono fun e W' ⟨he, bel⟩ => ?_
 subst he
 exact ⟨_, rfl, _, _, _, [], _, [], hW', trodAll_mk1 (shut_bool Try.underlying4 _), (trodAll_cons_mk (Below.trod laidOut (by kernel_rfl) (of_decide_eq_true (by kernel_rfl)) k0 bel lt0) trodAll_mk0), rfl, bel.frame _, fun h => by cases h⟩
theorem over : Rows.exprRoundTripsRow.holds Try.pinned (OpenSpec.ofChange Rows.exprRoundTripsSpec) :=
 OpenClaim.holds_of_wide 5 Try.f5 rfl rfl rfl rfl rfl rfl rfl ⟨rfl, rfl, rfl, rfl, rfl⟩ rfl rfl rfl rfl rfl (by kernel_rfl) Try.func5 (by kernel_rfl)
  (of_decide_eq_true (by kernel_rfl)) (by unfold Func.isWrapper; first | (rw [if_pos (by decide +kernel)]; kernel_rfl) | (rw [if_neg (by decide +kernel)]; exact ⟨rfl, rfl⟩))
  (fun os started H enc _ => lifted os started H enc)
theorem proved : Rows.ExprRoundTripsSaid := over
#print axioms proved
end Go.Proofs.Ytjofkebiacaciaa.exprRoundTrips
namespace Go.Proofs.Ytjofkebiacaciaa
theorem exprRoundTrips_holds : Rows.ExprRoundTripsSaid := exprRoundTrips.proved
end Go.Proofs.Ytjofkebiacaciaa
