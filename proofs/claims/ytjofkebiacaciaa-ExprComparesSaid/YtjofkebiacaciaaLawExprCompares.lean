/- ExprCompares: the given statement, by the texts before it. Conditions: none beside those of the given statement. -/
import Derived.Test.YtjofkebiacaciaaRows
import Derived.WalkKit
import Derived.ProofKit
import Derived.OpenShut
import Derived.ShutString
import Derived.ChangeOld
import Derived.Below
import Derived.SizedLaws
import Derived.Test.YtjofkebiacaciaaMExprCompares1
import Derived.Test.YtjofkebiacaciaaMc16
namespace Go.Proofs.Ytjofkebiacaciaa.exprCompares
open Go.ChangeShapes Go.WideShapes Go.ChangeAt Go.RowKit
open Go.ChangeMaps (open_string shut_string)
open Go.Proofs.Ytjofkebiacaciaa.PAll Go.Proofs.Ytjofkebiacaciaa.AllRead24 Go.Proofs.YtjofkebiacaciaaW.PrintWords
set_option linter.all false
theorem own : ownKnob Try.prog.godebug = none := by kernel_rfl
theorem laidOut : laidOutB Try.prog = true := by kernel_rfl
set_option maxRecDepth 100000 in
theorem lifted (os : Os) (started : os.Started) (H : Type) (enc : TypeId × Value → H) :
  ReturnsInHanded {} Try.checked os 6 .any (Rows.exprComparesSpec.pre6 enc Try.prog Try.f6 Rows.exprComparesRow.domain false) (Rows.exprComparesSpec.post enc Try.prog Try.f6 false true false false) := by
 refine returnsInHanded_of_change_sized (C := Try.checked) own started (by kernel_rfl) Try.func6
  (ChangeSpec.witness6 (enc := enc) (C := Try.checked) false ⟨#[], #[.agg #[.int .i64 0, .int .i64 0, .slice none 0 0], .agg #[.int .i64 0, .int .i64 0, .slice none 0 0], .agg #[.int .i64 0, .int .i64 0, .slice none 0 0]], []⟩ 8 (by kernel_rfl) (by kernel_rfl) (by kernel_rfl) (by kernel_rfl)) ?_
 intro W base args ds gs before hval0 hW hcnd hsz0 _
 have hsz : (DataW.weightsEach Try.prog (Try.f6.params.toList ++ Rows.exprComparesSpec.plain.varTypes Try.prog) (ds ++ gs)).all (· ≤ reachBytes) = true := hsz0
 have hval : ∀ (j : Nat) t v, Try.f6.params[j]? = some t → args[j]? = some v → Value.okWide Try.prog W .any base t v := hval0
 have hW' := hW
 obtain ⟨p, q, hA0, hV, rfl, hfz, hnd⟩ := hW
 have hA : DataW.TrodAll enc Try.prog W 0 (fun _ => true) true Try.f6.params.toList args.toList ds p := hA0
 rw [Try.params6] at hA hval hsz
 obtain ⟨v0, vs0, d0, ds0, p0, q0, hargs, rfl, rfl, h0, r0⟩ := trodAll_cons hA
 obtain ⟨v1, vs1, d1, ds1, p1, q1, rfl, rfl, rfl, h1, r1⟩ := trodAll_cons r0
 obtain ⟨v2, vs2, d2, ds2, p2, q2, rfl, rfl, rfl, h2, r2⟩ := trodAll_cons r1
 obtain ⟨rfl, rfl, rfl⟩ := trodAll_nil r2
 obtain rfl : args = #[v0, v1, v2] := by cases args; simp_all
 obtain ⟨rfl, rfl⟩ := trodVars_none hV
 obtain ⟨cs0, rfl, hs0⟩ := okWide_struct Try.underlying24 (hval 0 24 v0 rfl rfl)
 have k0 := h0
 have lt0 : ∀ x ∈ p0, x.block < W.heap.size := by obtain ⟨m, hm⟩ := k0; exact DataW.trod_lt m _ _ _ hm
 obtain ⟨fu0, hf0⟩ := h0
 obtain ⟨e0, hk0, wf0⟩ := read_tree fu0 _ _ hf0
 obtain ⟨A0, c0, hcs0, hl0, hc0⟩ := k24_open hk0
 obtain rfl : cs0 = #[.int .i64 e0.f0, .int .i64 e0.f1, .slice A0 e0.f2.length c0] := by cases cs0; exact congrArg Array.mk hcs0
 obtain ⟨cs1, rfl, hs1⟩ := okWide_struct Try.underlying24 (hval 1 24 v1 rfl rfl)
 have k1 := h1
 have lt1 : ∀ x ∈ p1, x.block < W.heap.size := by obtain ⟨m, hm⟩ := k1; exact DataW.trod_lt m _ _ _ hm
 obtain ⟨fu1, hf1⟩ := h1
 obtain ⟨e1, hk1, wf1⟩ := read_tree fu1 _ _ hf1
 obtain ⟨A1, c1, hcs1, hl1, hc1⟩ := k24_open hk1
 obtain rfl : cs1 = #[.int .i64 e1.f0, .int .i64 e1.f1, .slice A1 e1.f2.length c1] := by cases cs1; exact congrArg Array.mk hcs1
 obtain ⟨cs2, rfl, hs2⟩ := okWide_struct Try.underlying24 (hval 2 24 v2 rfl rfl)
 have k2 := h2
 have lt2 : ∀ x ∈ p2, x.block < W.heap.size := by obtain ⟨m, hm⟩ := k2; exact DataW.trod_lt m _ _ _ hm
 obtain ⟨fu2, hf2⟩ := h2
 obtain ⟨e2, hk2, wf2⟩ := read_tree fu2 _ _ hf2
 obtain ⟨A2, c2, hcs2, hl2, hc2⟩ := k24_open hk2
 obtain rfl : cs2 = #[.int .i64 e2.f0, .int .i64 e2.f1, .slice A2 e2.f2.length c2] := by cases cs2; exact congrArg Array.mk hcs2
 clear hA0 hval0 hsz0 hsz
 obtain ⟨kk, hP⟩ := Pure.ExprCompares e0 e1 e2 wf0 wf1 wf2
 refine (semigrouplaw04_ExprCompares.calls kk e0.f0 e0.f1 A0 c0 e0.f2 e1.f0 e1.f1 A1 c1 e1.f2 e2.f0 e2.f1 A2 c2 e2.f2 true W hc0 hl0 hc1 hl1 hc2 hl2 hP).mono fun e W' ⟨he, bel⟩ => ?_
 subst he
 exact ⟨_, rfl, _, _, _, [], _, [], hW', trodAll_mk1 (shut_bool Try.underlying4 _), (trodAll_cons_mk (Below.trod laidOut (by kernel_rfl) (of_decide_eq_true (by kernel_rfl)) k0 bel lt0) (trodAll_cons_mk (Below.trod laidOut (by kernel_rfl) (of_decide_eq_true (by kernel_rfl)) k1 bel lt1) (trodAll_cons_mk (Below.trod laidOut (by kernel_rfl) (of_decide_eq_true (by kernel_rfl)) k2 bel lt2) trodAll_mk0))), rfl, bel.frame _, fun h => by cases h⟩
theorem over : Rows.exprComparesRow.holds Try.pinned (OpenSpec.ofChange Rows.exprComparesSpec) :=
 OpenClaim.holds_of_wide 6 Try.f6 rfl rfl rfl rfl rfl rfl rfl ⟨rfl, rfl, rfl, rfl, rfl⟩ rfl rfl rfl rfl rfl (by kernel_rfl) Try.func6 (by kernel_rfl)
  (of_decide_eq_true (by kernel_rfl)) (by unfold Func.isWrapper; first | (rw [if_pos (by decide +kernel)]; kernel_rfl) | (rw [if_neg (by decide +kernel)]; exact ⟨rfl, rfl⟩))
  (fun os started H enc _ => lifted os started H enc)
theorem proved : Rows.ExprComparesSaid := over
#print axioms proved
end Go.Proofs.Ytjofkebiacaciaa.exprCompares
namespace Go.Proofs.Ytjofkebiacaciaa
theorem exprCompares_holds : Rows.ExprComparesSaid := exprCompares.proved
end Go.Proofs.Ytjofkebiacaciaa
