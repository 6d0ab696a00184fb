/- ExprBoolean: the given statement, by the texts before it. Conditions: none beside those of the given statement. -/
import Derived.Test.YtjofkebiacaciaaRows
import Derived.WalkKit
import Derived.ProofKit
import Derived.OpenShut
import Derived.ShutString
import Derived.ChangeOld
import Derived.Below
import Derived.SizedLaws
import Derived.Test.YtjofkebiacaciaaMExprBoolean4
import Derived.Test.YtjofkebiacaciaaMc16
namespace Go.Proofs.Ytjofkebiacaciaa.exprBoolean
open Go.ChangeShapes Go.WideShapes Go.ChangeAt Go.RowKit
open Go.ChangeMaps (open_string shut_string)
open Go.Proofs.Ytjofkebiacaciaa.PAll Go.Proofs.Ytjofkebiacaciaa.AllRead24 Go.Proofs.YtjofkebiacaciaaW.PrintWords
set_option linter.all false
theorem own : ownKnob Try.prog.godebug = none := by kernel_rfl
theorem laidOut : laidOutB Try.prog = true := by kernel_rfl
set_option maxRecDepth 100000 in
theorem lifted (os : Os) (started : os.Started) (H : Type) (enc : TypeId × Value → H) :
  ReturnsInHanded {} Try.checked os 9 .any (Rows.exprBooleanSpec.pre6 enc Try.prog Try.f9 Rows.exprBooleanRow.domain false) (Rows.exprBooleanSpec.post enc Try.prog Try.f9 false true false false) := by
 refine returnsInHanded_of_change_sized (C := Try.checked) own started (by kernel_rfl) Try.func9
  (ChangeSpec.witness6 (enc := enc) (C := Try.checked) false ⟨#[], #[.agg #[.int .i64 0, .int .i64 0, .slice none 0 0], .agg #[.int .i64 0, .int .i64 0, .slice none 0 0], .string ByteArray.empty], []⟩ 8 (by kernel_rfl) (by kernel_rfl) (by kernel_rfl) (by kernel_rfl)) ?_
 intro W base args ds gs before hval0 hW hcnd hsz0 _
 have hsz : (DataW.weightsEach Try.prog (Try.f9.params.toList ++ Rows.exprBooleanSpec.plain.varTypes Try.prog) (ds ++ gs)).all (· ≤ reachBytes) = true := hsz0
 have hval : ∀ (j : Nat) t v, Try.f9.params[j]? = some t → args[j]? = some v → Value.okWide Try.prog W .any base t v := hval0
 have hW' := hW
 obtain ⟨p, q, hA0, hV, rfl, hfz, hnd⟩ := hW
 have hA : DataW.TrodAll enc Try.prog W 0 (fun _ => true) true Try.f9.params.toList args.toList ds p := hA0
 rw [Try.params9] at hA hval hsz
 obtain ⟨v0, vs0, d0, ds0, p0, q0, hargs, rfl, rfl, h0, r0⟩ := trodAll_cons hA
 obtain ⟨v1, vs1, d1, ds1, p1, q1, rfl, rfl, rfl, h1, r1⟩ := trodAll_cons r0
 obtain ⟨v2, vs2, d2, ds2, p2, q2, rfl, rfl, rfl, h2, r2⟩ := trodAll_cons r1
 obtain ⟨rfl, rfl, rfl⟩ := trodAll_nil r2
 obtain rfl : args = #[v0, v1, v2] := by cases args; simp_all
 obtain ⟨rfl, rfl⟩ := trodVars_none hV
 obtain ⟨cs0, rfl, hs0⟩ := okWide_struct Try.underlying24 (hval 0 24 v0 rfl rfl)
 have k0 := h0
 have lt0 : ∀ x ∈ p0, x.block < W.heap.size := by obtain ⟨m, hm⟩ := k0; exact DataW.trod_lt m _ _ _ hm
 obtain ⟨fu0, hf0⟩ := h0
 obtain ⟨e0, hk0, wf0⟩ := read_tree fu0 _ _ hf0
 obtain ⟨A0, c0, hcs0, hl0, hc0⟩ := k24_open hk0
 obtain rfl : cs0 = #[.int .i64 e0.f0, .int .i64 e0.f1, .slice A0 e0.f2.length c0] := by cases cs0; exact congrArg Array.mk hcs0
 obtain ⟨cs1, rfl, hs1⟩ := okWide_struct Try.underlying24 (hval 1 24 v1 rfl rfl)
 have k1 := h1
 have lt1 : ∀ x ∈ p1, x.block < W.heap.size := by obtain ⟨m, hm⟩ := k1; exact DataW.trod_lt m _ _ _ hm
 obtain ⟨fu1, hf1⟩ := h1
 obtain ⟨e1, hk1, wf1⟩ := read_tree fu1 _ _ hf1
 obtain ⟨A1, c1, hcs1, hl1, hc1⟩ := k24_open hk1
 obtain rfl : cs1 = #[.int .i64 e1.f0, .int .i64 e1.f1, .slice A1 e1.f2.length c1] := by cases cs1; exact congrArg Array.mk hcs1
 obtain ⟨a2, rfl, rfl, rfl, y2⟩ := open_string Try.underlying9 (hval 2 9 v2 rfl rfl) h2
 have w2 : a2.size ≤ 140737488351232 := by
  have z := sized_string hsz (j := 2) (t := 9) rfl rfl
  rw [Array.length_toList] at z
  exact z
 clear hA0 hval0 hsz0 hsz
 obtain ⟨kk, hP⟩ := Pure.ExprBoolean e0 e1 a2 wf0 wf1 w2
 refine (semigrouplaw04_ExprBoolean.calls kk e0.f0 e0.f1 (fun k_ => k_ < W.heap.size) A0 c0 e0.f2 e1.f0 e1.f1 (fun k_ => k_ < W.heap.size) A1 c1 e1.f2 a2 true W (Kd.V_mk hl0 (Kd.C_F k24_heap hc0)) (Kd.V_mk hl1 (Kd.C_F k24_heap hc1)) hP).mono fun e W' ⟨he, bel⟩ => ?_
 subst he
 exact ⟨_, rfl, _, _, _, [], _, [], hW', trodAll_mk1 (shut_bool Try.underlying4 _), (trodAll_cons_mk (Below.trod laidOut (by kernel_rfl) (of_decide_eq_true (by kernel_rfl)) k0 bel lt0) (trodAll_cons_mk (Below.trod laidOut (by kernel_rfl) (of_decide_eq_true (by kernel_rfl)) k1 bel lt1) (trodAll_cons_mk (shut_string Try.underlying9 y2) trodAll_mk0))), rfl, bel.frame _, fun h => by cases h⟩
theorem over : Rows.exprBooleanRow.holds Try.pinned (OpenSpec.ofChange Rows.exprBooleanSpec) :=
 OpenClaim.holds_of_wide 9 Try.f9 rfl rfl rfl rfl rfl rfl rfl ⟨rfl, rfl, rfl, rfl, rfl⟩ rfl rfl rfl rfl rfl (by kernel_rfl) Try.func9 (by kernel_rfl)
  (of_decide_eq_true (by kernel_rfl)) (by unfold Func.isWrapper; first | (rw [if_pos (by decide +kernel)]; kernel_rfl) | (rw [if_neg (by decide +kernel)]; exact ⟨rfl, rfl⟩))
  (fun os started H enc _ => lifted os started H enc)
theorem proved : Rows.ExprBooleanSaid := over
#print axioms proved
end Go.Proofs.Ytjofkebiacaciaa.exprBoolean
namespace Go.Proofs.Ytjofkebiacaciaa
theorem exprBoolean_holds : Rows.ExprBooleanSaid := exprBoolean.proved
end Go.Proofs.Ytjofkebiacaciaa
