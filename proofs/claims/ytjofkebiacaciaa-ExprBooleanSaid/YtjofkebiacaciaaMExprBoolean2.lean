/- The functions that the laws of this seat reach, a proof for each that the Go code comes to them, and the plain laws; merged. Conditions: none beside those of the given statements. -/
import Derived.Test.YtjofkebiacaciaaMc14
import Derived.Test.YtjofkebiacaciaaMExprBoolean1
namespace Go.Proofs.Ytjofkebiacaciaa.PAll
open Go.RowKit Go.Proofs.YtjofkebiacaciaaW.PrintWords Go.Proofs.YtjofkebiacaciaaW.PrintLast Go.Proofs.YtjofkebiacaciaaW.PrintMore
attribute [local go_sem] max2_int min2_int max_two min_two max_three min_three max_four min_four
set_option linter.unusedVariables false
set_option linter.unusedSimpArgs false
mutual
def expr_match.l0 : Nat → List (List Int) → Int → Int → Option ((List (List Int)))
 | 0, _, _, _ => none
 | k + 1, x6, x32, x33 => if x33 < x32 then (if 0 ≤ x33 then (if x33 < (x6.length : Int) then (if 0 ≤ (wrap64 (Int.tdiv x33 64)) then (if (wrap64 (Int.tdiv x33 64)) < ((rd_L4 x6 x33).length : Int) then (if 0 ≤ (IntKind.u64.wrap (Int.tmod x33 64)) then (expr_match.l0 k (x6.set (x33 : Int).toNat ((rd_L4 x6 x33).set ((wrap64 (Int.tdiv x33 64)) : Int).toNat (Go.bits .or .u64 (rd (rd_L4 x6 x33) (wrap64 (Int.tdiv x33 64))) (shl .u64 1 (IntKind.u64.wrap (Int.tmod x33 64)))))) x32 (wrap64 (x33 + 1))) else (none)) else (none)) else (none)) else (none)) else (none)) else (some x6)
def expr_match.l1 : Nat → ByteArray → Int → List (List Int) → Int → Int → Int → List (S24) → Option ((List (List Int)))
 | 0, _, _, _, _, _, _, _ => none
 | k + 1, x1, x5, x6, x8, x294000, x294001, x294002 => if x8 < x5 then (if 0 ≤ x8 then (if x8 < (x1.size : Int) then (if (((bt x1 x8) - 97) % 256) = x294001 then (if x8 < (x6.length : Int) then (if 0 ≤ (wrap64 (Int.tdiv (wrap64 (x8 + 1)) 64)) then (if (wrap64 (Int.tdiv (wrap64 (x8 + 1)) 64)) < ((rd_L4 x6 x8).length : Int) then (if 0 ≤ (IntKind.u64.wrap (Int.tmod (wrap64 (x8 + 1)) 64)) then (expr_match.l1 k x1 x5 (x6.set (x8 : Int).toNat ((rd_L4 x6 x8).set ((wrap64 (Int.tdiv (wrap64 (x8 + 1)) 64)) : Int).toNat (Go.bits .or .u64 (rd (rd_L4 x6 x8) (wrap64 (Int.tdiv (wrap64 (x8 + 1)) 64))) (shl .u64 1 (IntKind.u64.wrap (Int.tmod (wrap64 (x8 + 1)) 64)))))) (wrap64 (x8 + 1)) x294000 x294001 x294002) else (none)) else (none)) else (none)) else (none)) else (expr_match.l1 k x1 x5 x6 (wrap64 (x8 + 1)) x294000 x294001 x294002)) else (none)) else (none)) else (some x6)
def expr_match.j2 : Nat → ByteArray → Int → List (List Int) → Int → Bool → Int → Int → List (S24) → Option ((List (List Int)))
 | 0, _, _, _, _, _, _, _, _ => none
 | k + 1, x1, x5, x6, x28, x61, x294000, x294001, x294002 => if x61 = true then (expr_match.l2 k x1 x6 x294002 (x294002.length : Int) 0 x294000 x294001 x294002) else (if x28 = 5 then (if 0 < (x294002.length : Int) then ((expr_match.f k ((rd_T24 x294002 0).f0) ((rd_T24 x294002 0).f1) ((rd_T24 x294002 0).f2) x1).bind fun t334 => (if 1 ≤ (x294002.length : Int) then ((some (x294002.drop 1 : List (S24))).bind fun y337 => (expr_match.l5 k x1 t334 y337 (y337.length : Int) 0)) else (none))) else (none)) else (if x28 = 7 then (if 0 < (x294002.length : Int) then ((expr_match.f k ((rd_T24 x294002 0).f0) ((rd_T24 x294002 0).f1) ((rd_T24 x294002 0).f2) x1).bind fun t350 => (expr_match.l6 k x5 x6 t350 x5)) else (none)) else (if x28 = 8 then (if 0 < (x294002.length : Int) then ((expr_match.f k ((rd_T24 x294002 0).f0) ((rd_T24 x294002 0).f1) ((rd_T24 x294002 0).f2) x1).bind fun t368 => (expr_match.l9 k x5 x6 t368 0)) else (none)) else (some x6))))
def expr_match.l2 : Nat → ByteArray → List (List Int) → List (S24) → Int → Int → Int → Int → List (S24) → Option ((List (List Int)))
 | 0, _, _, _, _, _, _, _, _ => none
 | k + 1, x1, x6, x65, x66, x67, x294000, x294001, x294002 => if x67 < x66 then (if 0 ≤ x67 then (if x67 < (x65.length : Int) then ((expr_match.f k ((rd_T24 x65 x67).f0) ((rd_T24 x65 x67).f1) ((rd_T24 x65 x67).f2) x1).bind fun t309 => (expr_match.l3 k x1 x6 x67 t309 x65 x66 x67 (x6.length : Int) 0 x294000 x294001 x294002)) else (none)) else (none)) else (some x6)
def expr_match.l3 : Nat → ByteArray → List (List Int) → Int → List (List Int) → List (S24) → Int → Int → Int → Int → Int → Int → List (S24) → Option ((List (List Int)))
 | 0, _, _, _, _, _, _, _, _, _, _, _, _ => none
 | k + 1, x1, x6, x9, x11, x65, x66, x67, x76, x77, x294000, x294001, x294002 => if x77 < x76 then (if 0 ≤ x77 then (if x77 < (x6.length : Int) then (expr_match.l4 k x1 x6 x9 x11 x77 x65 x66 x67 x76 x77 ((rd_L4 x6 x77).length : Int) 0 x294000 x294001 x294002) else (none)) else (none)) else (expr_match.l2 k x1 x6 x65 x66 (wrap64 (x67 + 1)) x294000 x294001 x294002)
def expr_match.l4 : Nat → ByteArray → List (List Int) → Int → List (List Int) → Int → List (S24) → Int → Int → Int → Int → Int → Int → Int → Int → List (S24) → Option ((List (List Int)))
 | 0, _, _, _, _, _, _, _, _, _, _, _, _, _, _, _ => none
 | k + 1, x1, x6, x9, x11, x12, x65, x66, x67, x76, x77, x84, x85, x294000, x294001, x294002 => if x85 < x84 then (if x9 = 0 then (if 0 ≤ x12 then (if x12 < (x6.length : Int) then (if x12 < (x11.length : Int) then (if 0 ≤ x85 then (if x85 < ((rd_L4 x11 x12).length : Int) then (if x85 < ((rd_L4 x6 x12).length : Int) then (expr_match.l4 k x1 (x6.set (x12 : Int).toNat ((rd_L4 x6 x12).set (x85 : Int).toNat (rd (rd_L4 x11 x12) x85))) x9 x11 x12 x65 x66 x67 x76 x77 x84 (wrap64 (x85 + 1)) x294000 x294001 x294002) else (none)) else (none)) else (none)) else (none)) else (none)) else (none)) else (if x294000 = 4 then (if 0 ≤ x12 then (if x12 < (x6.length : Int) then (if 0 ≤ x85 then (if x85 < ((rd_L4 x6 x12).length : Int) then (if x12 < (x11.length : Int) then (if x85 < ((rd_L4 x11 x12).length : Int) then (expr_match.l4 k x1 (x6.set (x12 : Int).toNat ((rd_L4 x6 x12).set (x85 : Int).toNat (Go.bits .or .u64 (rd (rd_L4 x6 x12) x85) (rd (rd_L4 x11 x12) x85)))) x9 x11 x12 x65 x66 x67 x76 x77 x84 (wrap64 (x85 + 1)) x294000 x294001 x294002) else (none)) else (none)) else (none)) else (none)) else (none)) else (none)) else (if 0 ≤ x12 then (if x12 < (x6.length : Int) then (if 0 ≤ x85 then (if x85 < ((rd_L4 x6 x12).length : Int) then (if x12 < (x11.length : Int) then (if x85 < ((rd_L4 x11 x12).length : Int) then (expr_match.l4 k x1 (x6.set (x12 : Int).toNat ((rd_L4 x6 x12).set (x85 : Int).toNat (Go.bits .and .u64 (rd (rd_L4 x6 x12) x85) (rd (rd_L4 x11 x12) x85)))) x9 x11 x12 x65 x66 x67 x76 x77 x84 (wrap64 (x85 + 1)) x294000 x294001 x294002) else (none)) else (none)) else (none)) else (none)) else (none)) else (none)))) else (expr_match.l3 k x1 x6 x9 x11 x65 x66 x67 x76 (wrap64 (x77 + 1)) x294000 x294001 x294002)
def expr_match.l5 : Nat → ByteArray → List (List Int) → List (S24) → Int → Int → Option ((List (List Int)))
 | 0, _, _, _, _, _ => none
 | k + 1, x1, x6, x153, x154, x155 => if x155 < x154 then (if 0 ≤ x155 then (if x155 < (x153.length : Int) then ((expr_match.f k ((rd_T24 x153 x155).f0) ((rd_T24 x153 x155).f1) ((rd_T24 x153 x155).f2) x1).bind fun t343 => ((expr_spans_then.f k x6 t343).bind fun t346 => (expr_match.l5 k x1 t346 x153 x154 (wrap64 (x155 + 1))))) else (none)) else (none)) else (some x6)
def expr_match.l6 : Nat → Int → List (List Int) → List (List Int) → Int → Option ((List (List Int)))
 | 0, _, _, _, _ => none
 | k + 1, x5, x6, x16, x17 => if x17 ≥ 0 then (if 0 ≤ x17 then (if x17 < (x6.length : Int) then (if 0 ≤ (wrap64 (Int.tdiv x17 64)) then (if (wrap64 (Int.tdiv x17 64)) < ((rd_L4 x6 x17).length : Int) then (if 0 ≤ (IntKind.u64.wrap (Int.tmod x17 64)) then (expr_match.l7 k x5 (x6.set (x17 : Int).toNat ((rd_L4 x6 x17).set ((wrap64 (Int.tdiv x17 64)) : Int).toNat (Go.bits .or .u64 (rd (rd_L4 x6 x17) (wrap64 (Int.tdiv x17 64))) (shl .u64 1 (IntKind.u64.wrap (Int.tmod x17 64)))))) x16 x17 (wrap64 (x17 + 1))) else (none)) else (none)) else (none)) else (none)) else (none)) else (some x6)
def expr_match.l7 : Nat → Int → List (List Int) → List (List Int) → Int → Int → Option ((List (List Int)))
 | 0, _, _, _, _, _ => none
 | k + 1, x5, x6, x16, x17, x18 => if x18 ≤ x5 then ((expr_spans_has.f x16 x17 x18).bind fun t358 => (if t358 = true then (if 0 ≤ x18 then (if x18 < (x6.length : Int) then (expr_match.l8 k x5 x6 x16 x17 x18 ((rd_L4 x6 x18).length : Int) 0) else (none)) else (none)) else (expr_match.l7 k x5 x6 x16 x17 (wrap64 (x18 + 1))))) else (expr_match.l6 k x5 x6 x16 (wrap64 (x17 - 1)))
def expr_match.l8 : Nat → Int → List (List Int) → List (List Int) → Int → Int → Int → Int → Option ((List (List Int)))
 | 0, _, _, _, _, _, _, _ => none
 | k + 1, x5, x6, x16, x17, x18, x197, x198 => if x198 < x197 then (if 0 ≤ x17 then (if x17 < (x6.length : Int) then (if 0 ≤ x198 then (if x198 < ((rd_L4 x6 x17).length : Int) then (if 0 ≤ x18 then (if x18 < (x6.length : Int) then (if x198 < ((rd_L4 x6 x18).length : Int) then (expr_match.l8 k x5 (x6.set (x17 : Int).toNat ((rd_L4 x6 x17).set (x198 : Int).toNat (Go.bits .or .u64 (rd (rd_L4 x6 x17) x198) (rd (rd_L4 x6 x18) x198)))) x16 x17 x18 x197 (wrap64 (x198 + 1))) else (none)) else (none)) else (none)) else (none)) else (none)) else (none)) else (none)) else (expr_match.l7 k x5 x6 x16 x17 (wrap64 (x18 + 1)))
def expr_match.l9 : Nat → Int → List (List Int) → List (List Int) → Int → Option ((List (List Int)))
 | 0, _, _, _, _ => none
 | k + 1, x5, x6, x20, x21 => if x21 ≤ x5 then (expr_match.l10 k x5 x6 x20 x21 x21) else (some x6)
def expr_match.l10 : Nat → Int → List (List Int) → List (List Int) → Int → Int → Option ((List (List Int)))
 | 0, _, _, _, _, _ => none
 | k + 1, x5, x6, x20, x21, x22 => if x22 ≤ x5 then ((expr_spans_has.f x20 x21 x22).bind fun t371 => (if t371 = true then (expr_match.l10 k x5 x6 x20 x21 (wrap64 (x22 + 1))) else (if 0 ≤ x21 then (if x21 < (x6.length : Int) then (if 0 ≤ (wrap64 (Int.tdiv x22 64)) then (if (wrap64 (Int.tdiv x22 64)) < ((rd_L4 x6 x21).length : Int) then (if 0 ≤ (IntKind.u64.wrap (Int.tmod x22 64)) then (expr_match.l10 k x5 (x6.set (x21 : Int).toNat ((rd_L4 x6 x21).set ((wrap64 (Int.tdiv x22 64)) : Int).toNat (Go.bits .or .u64 (rd (rd_L4 x6 x21) (wrap64 (Int.tdiv x22 64))) (shl .u64 1 (IntKind.u64.wrap (Int.tmod x22 64)))))) x20 x21 (wrap64 (x22 + 1))) else (none)) else (none)) else (none)) else (none)) else (none)))) else (expr_match.l9 k x5 x6 x20 (wrap64 (x21 + 1)))
def expr_match.f : Nat → Int → Int → List (S24) → ByteArray → Option ((List (List Int)))
 | 0, _, _, _, _ => none
 | k + 1, a0_0, a0_1, l0_2, a1 => (expr_newSpans.f k (a1.size : Int)).bind fun t294 => (if a0_0 = 2 then (expr_match.l0 k t294 (t294.length : Int) 0) else (if a0_0 = 3 then (expr_match.l1 k a1 (a1.size : Int) t294 0 a0_0 a0_1 l0_2) else (if a0_0 = 4 then (expr_match.j2 k a1 (a1.size : Int) t294 a0_0 (a0_0 == 4) a0_0 a0_1 l0_2) else (expr_match.j2 k a1 (a1.size : Int) t294 a0_0 (a0_0 == 6) a0_0 a0_1 l0_2))))
end
theorem expr_match.mono_l : ∀ k, (∀ y0 y1 y2 y3, LeO (expr_match.f k y0 y1 y2 y3) (expr_match.f (k + 1) y0 y1 y2 y3)) ∧ (∀ y0 y1 y2, LeO (expr_match.l0 k y0 y1 y2) (expr_match.l0 (k + 1) y0 y1 y2)) ∧ (∀ y0 y1 y2 y3 y4 y5 y6, LeO (expr_match.l1 k y0 y1 y2 y3 y4 y5 y6) (expr_match.l1 (k + 1) y0 y1 y2 y3 y4 y5 y6)) ∧ (∀ y0 y1 y2 y3 y4 y5 y6 y7, LeO (expr_match.j2 k y0 y1 y2 y3 y4 y5 y6 y7) (expr_match.j2 (k + 1) y0 y1 y2 y3 y4 y5 y6 y7)) ∧ (∀ y0 y1 y2 y3 y4 y5 y6 y7, LeO (expr_match.l2 k y0 y1 y2 y3 y4 y5 y6 y7) (expr_match.l2 (k + 1) y0 y1 y2 y3 y4 y5 y6 y7)) ∧ (∀ y0 y1 y2 y3 y4 y5 y6 y7 y8 y9 y10 y11, LeO (expr_match.l3 k y0 y1 y2 y3 y4 y5 y6 y7 y8 y9 y10 y11) (expr_match.l3 (k + 1) y0 y1 y2 y3 y4 y5 y6 y7 y8 y9 y10 y11)) ∧ (∀ y0 y1 y2 y3 y4 y5 y6 y7 y8 y9 y10 y11 y12 y13 y14, LeO (expr_match.l4 k y0 y1 y2 y3 y4 y5 y6 y7 y8 y9 y10 y11 y12 y13 y14) (expr_match.l4 (k + 1) y0 y1 y2 y3 y4 y5 y6 y7 y8 y9 y10 y11 y12 y13 y14)) ∧ (∀ y0 y1 y2 y3 y4, LeO (expr_match.l5 k y0 y1 y2 y3 y4) (expr_match.l5 (k + 1) y0 y1 y2 y3 y4)) ∧ (∀ y0 y1 y2 y3, LeO (expr_match.l6 k y0 y1 y2 y3) (expr_match.l6 (k + 1) y0 y1 y2 y3)) ∧ (∀ y0 y1 y2 y3 y4, LeO (expr_match.l7 k y0 y1 y2 y3 y4) (expr_match.l7 (k + 1) y0 y1 y2 y3 y4)) ∧ (∀ y0 y1 y2 y3 y4 y5 y6, LeO (expr_match.l8 k y0 y1 y2 y3 y4 y5 y6) (expr_match.l8 (k + 1) y0 y1 y2 y3 y4 y5 y6)) ∧ (∀ y0 y1 y2 y3, LeO (expr_match.l9 k y0 y1 y2 y3) (expr_match.l9 (k + 1) y0 y1 y2 y3)) ∧ (∀ y0 y1 y2 y3 y4, LeO (expr_match.l10 k y0 y1 y2 y3 y4) (expr_match.l10 (k + 1) y0 y1 y2 y3 y4))
 | 0 => ⟨fun _ _ _ _ r h => by simp [expr_match.f] at h, fun _ _ _ r h => by simp [expr_match.l0] at h, fun _ _ _ _ _ _ _ r h => by simp [expr_match.l1] at h, fun _ _ _ _ _ _ _ _ r h => by simp [expr_match.j2] at h, fun _ _ _ _ _ _ _ _ r h => by simp [expr_match.l2] at h, fun _ _ _ _ _ _ _ _ _ _ _ _ r h => by simp [expr_match.l3] at h, fun _ _ _ _ _ _ _ _ _ _ _ _ _ _ _ r h => by simp [expr_match.l4] at h, fun _ _ _ _ _ r h => by simp [expr_match.l5] at h, fun _ _ _ _ r h => by simp [expr_match.l6] at h, fun _ _ _ _ _ r h => by simp [expr_match.l7] at h, fun _ _ _ _ _ _ _ r h => by simp [expr_match.l8] at h, fun _ _ _ _ r h => by simp [expr_match.l9] at h, fun _ _ _ _ _ r h => by simp [expr_match.l10] at h⟩
 | k + 1 => by
  obtain ⟨ih0, ih1, ih2, ih3, ih4, ih5, ih6, ih7, ih8, ih9, ih10, ih11, ih12⟩ := expr_match.mono_l k
  refine ⟨?_, ?_, ?_, ?_, ?_, ?_, ?_, ?_, ?_, ?_, ?_, ?_, ?_⟩
  ·intro y0 y1 y2 y3
   unfold expr_match.f
   repeat' first
   | (with_reducible exact ih0 _ _ _ _)
   | (with_reducible exact ih1 _ _ _)
   | (with_reducible exact ih2 _ _ _ _ _ _ _)
   | (with_reducible exact ih3 _ _ _ _ _ _ _ _)
   | (with_reducible exact ih4 _ _ _ _ _ _ _ _)
   | (with_reducible exact ih5 _ _ _ _ _ _ _ _ _ _ _ _)
   | (with_reducible exact ih6 _ _ _ _ _ _ _ _ _ _ _ _ _ _ _)
   | (with_reducible exact ih7 _ _ _ _ _)
   | (with_reducible exact ih8 _ _ _ _)
   | (with_reducible exact ih9 _ _ _ _ _)
   | (with_reducible exact ih10 _ _ _ _ _ _ _)
   | (with_reducible exact ih11 _ _ _ _)
   | (with_reducible exact ih12 _ _ _ _ _)
   | (with_reducible exact expr_newSpans.mono _ _)
   | (with_reducible exact expr_spans_then.mono _ _ _)
   | (with_reducible exact LeO.refl _)
   | (with_reducible exact LeO.none _)
   | (with_reducible refine LeO.ite ?_ ?_)
   | (with_reducible refine LeO.bind ?_ (fun _ => ?_))
   | exact ih0 _ _ _ _
   | exact ih1 _ _ _
   | exact ih2 _ _ _ _ _ _ _
   | exact ih3 _ _ _ _ _ _ _ _
   | exact ih4 _ _ _ _ _ _ _ _
   | exact ih5 _ _ _ _ _ _ _ _ _ _ _ _
   | exact ih6 _ _ _ _ _ _ _ _ _ _ _ _ _ _ _
   | exact ih7 _ _ _ _ _
   | exact ih8 _ _ _ _
   | exact ih9 _ _ _ _ _
   | exact ih10 _ _ _ _ _ _ _
   | exact ih11 _ _ _ _
   | exact ih12 _ _ _ _ _
   | exact expr_newSpans.mono _ _
   | exact expr_spans_then.mono _ _ _
   | exact LeO.none _
   | refine LeO.ite ?_ ?_
   | refine LeO.bind ?_ (fun _ => ?_)
  ·intro y0 y1 y2
   unfold expr_match.l0
   repeat' first
   | (with_reducible exact ih0 _ _ _ _)
   | (with_reducible exact ih1 _ _ _)
   | (with_reducible exact ih2 _ _ _ _ _ _ _)
   | (with_reducible exact ih3 _ _ _ _ _ _ _ _)
   | (with_reducible exact ih4 _ _ _ _ _ _ _ _)
   | (with_reducible exact ih5 _ _ _ _ _ _ _ _ _ _ _ _)
   | (with_reducible exact ih6 _ _ _ _ _ _ _ _ _ _ _ _ _ _ _)
   | (with_reducible exact ih7 _ _ _ _ _)
   | (with_reducible exact ih8 _ _ _ _)
   | (with_reducible exact ih9 _ _ _ _ _)
   | (with_reducible exact ih10 _ _ _ _ _ _ _)
   | (with_reducible exact ih11 _ _ _ _)
   | (with_reducible exact ih12 _ _ _ _ _)
   | (with_reducible exact expr_newSpans.mono _ _)
   | (with_reducible exact expr_spans_then.mono _ _ _)
   | (with_reducible exact LeO.refl _)
   | (with_reducible exact LeO.none _)
   | (with_reducible refine LeO.ite ?_ ?_)
   | (with_reducible refine LeO.bind ?_ (fun _ => ?_))
   | exact ih0 _ _ _ _
   | exact ih1 _ _ _
   | exact ih2 _ _ _ _ _ _ _
   | exact ih3 _ _ _ _ _ _ _ _
   | exact ih4 _ _ _ _ _ _ _ _
   | exact ih5 _ _ _ _ _ _ _ _ _ _ _ _
   | exact ih6 _ _ _ _ _ _ _ _ _ _ _ _ _ _ _
   | exact ih7 _ _ _ _ _
   | exact ih8 _ _ _ _
   | exact ih9 _ _ _ _ _
   | exact ih10 _ _ _ _ _ _ _
   | exact ih11 _ _ _ _
   | exact ih12 _ _ _ _ _
   | exact expr_newSpans.mono _ _
   | exact expr_spans_then.mono _ _ _
   | exact LeO.none _
   | refine LeO.ite ?_ ?_
   | refine LeO.bind ?_ (fun _ => ?_)
  ·intro y0 y1 y2 y3 y4 y5 y6
   unfold expr_match.l1
   repeat' first
   | (with_reducible exact ih0 _ _ _ _)
   | (with_reducible exact ih1 _ _ _)
   | (with_reducible exact ih2 _ _ _ _ _ _ _)
   | (with_reducible exact ih3 _ _ _ _ _ _ _ _)
   | (with_reducible exact ih4 _ _ _ _ _ _ _ _)
   | (with_reducible exact ih5 _ _ _ _ _ _ _ _ _ _ _ _)
   | (with_reducible exact ih6 _ _ _ _ _ _ _ _ _ _ _ _ _ _ _)
   | (with_reducible exact ih7 _ _ _ _ _)
   | (with_reducible exact ih8 _ _ _ _)
   | (with_reducible exact ih9 _ _ _ _ _)
   | (with_reducible exact ih10 _ _ _ _ _ _ _)
   | (with_reducible exact ih11 _ _ _ _)
   | (with_reducible exact ih12 _ _ _ _ _)
   | (with_reducible exact expr_newSpans.mono _ _)
   | (with_reducible exact expr_spans_then.mono _ _ _)
   | (with_reducible exact LeO.refl _)
   | (with_reducible exact LeO.none _)
   | (with_reducible refine LeO.ite ?_ ?_)
   | (with_reducible refine LeO.bind ?_ (fun _ => ?_))
   | exact ih0 _ _ _ _
   | exact ih1 _ _ _
   | exact ih2 _ _ _ _ _ _ _
   | exact ih3 _ _ _ _ _ _ _ _
   | exact ih4 _ _ _ _ _ _ _ _
   | exact ih5 _ _ _ _ _ _ _ _ _ _ _ _
   | exact ih6 _ _ _ _ _ _ _ _ _ _ _ _ _ _ _
   | exact ih7 _ _ _ _ _
   | exact ih8 _ _ _ _
   | exact ih9 _ _ _ _ _
   | exact ih10 _ _ _ _ _ _ _
   | exact ih11 _ _ _ _
   | exact ih12 _ _ _ _ _
   | exact expr_newSpans.mono _ _
   | exact expr_spans_then.mono _ _ _
   | exact LeO.none _
   | refine LeO.ite ?_ ?_
   | refine LeO.bind ?_ (fun _ => ?_)
  ·intro y0 y1 y2 y3 y4 y5 y6 y7
   unfold expr_match.j2
   repeat' first
   | (with_reducible exact ih0 _ _ _ _)
   | (with_reducible exact ih1 _ _ _)
   | (with_reducible exact ih2 _ _ _ _ _ _ _)
   | (with_reducible exact ih3 _ _ _ _ _ _ _ _)
   | (with_reducible exact ih4 _ _ _ _ _ _ _ _)
   | (with_reducible exact ih5 _ _ _ _ _ _ _ _ _ _ _ _)
   | (with_reducible exact ih6 _ _ _ _ _ _ _ _ _ _ _ _ _ _ _)
   | (with_reducible exact ih7 _ _ _ _ _)
   | (with_reducible exact ih8 _ _ _ _)
   | (with_reducible exact ih9 _ _ _ _ _)
   | (with_reducible exact ih10 _ _ _ _ _ _ _)
   | (with_reducible exact ih11 _ _ _ _)
   | (with_reducible exact ih12 _ _ _ _ _)
   | (with_reducible exact expr_newSpans.mono _ _)
   | (with_reducible exact expr_spans_then.mono _ _ _)
   | (with_reducible exact LeO.refl _)
   | (with_reducible exact LeO.none _)
   | (with_reducible refine LeO.ite ?_ ?_)
   | (with_reducible refine LeO.bind ?_ (fun _ => ?_))
   | exact ih0 _ _ _ _
   | exact ih1 _ _ _
   | exact ih2 _ _ _ _ _ _ _
   | exact ih3 _ _ _ _ _ _ _ _
   | exact ih4 _ _ _ _ _ _ _ _
   | exact ih5 _ _ _ _ _ _ _ _ _ _ _ _
   | exact ih6 _ _ _ _ _ _ _ _ _ _ _ _ _ _ _
   | exact ih7 _ _ _ _ _
   | exact ih8 _ _ _ _
   | exact ih9 _ _ _ _ _
   | exact ih10 _ _ _ _ _ _ _
   | exact ih11 _ _ _ _
   | exact ih12 _ _ _ _ _
   | exact expr_newSpans.mono _ _
   | exact expr_spans_then.mono _ _ _
   | exact LeO.none _
   | refine LeO.ite ?_ ?_
   | refine LeO.bind ?_ (fun _ => ?_)
  ·intro y0 y1 y2 y3 y4 y5 y6 y7
   unfold expr_match.l2
   repeat' first
   | (with_reducible exact ih0 _ _ _ _)
   | (with_reducible exact ih1 _ _ _)
   | (with_reducible exact ih2 _ _ _ _ _ _ _)
   | (with_reducible exact ih3 _ _ _ _ _ _ _ _)
   | (with_reducible exact ih4 _ _ _ _ _ _ _ _)
   | (with_reducible exact ih5 _ _ _ _ _ _ _ _ _ _ _ _)
   | (with_reducible exact ih6 _ _ _ _ _ _ _ _ _ _ _ _ _ _ _)
   | (with_reducible exact ih7 _ _ _ _ _)
   | (with_reducible exact ih8 _ _ _ _)
   | (with_reducible exact ih9 _ _ _ _ _)
   | (with_reducible exact ih10 _ _ _ _ _ _ _)
   | (with_reducible exact ih11 _ _ _ _)
   | (with_reducible exact ih12 _ _ _ _ _)
   | (with_reducible exact expr_newSpans.mono _ _)
   | (with_reducible exact expr_spans_then.mono _ _ _)
   | (with_reducible exact LeO.refl _)
   | (with_reducible exact LeO.none _)
   | (with_reducible refine LeO.ite ?_ ?_)
   | (with_reducible refine LeO.bind ?_ (fun _ => ?_))
   | exact ih0 _ _ _ _
   | exact ih1 _ _ _
   | exact ih2 _ _ _ _ _ _ _
   | exact ih3 _ _ _ _ _ _ _ _
   | exact ih4 _ _ _ _ _ _ _ _
   | exact ih5 _ _ _ _ _ _ _ _ _ _ _ _
   | exact ih6 _ _ _ _ _ _ _ _ _ _ _ _ _ _ _
   | exact ih7 _ _ _ _ _
   | exact ih8 _ _ _ _
   | exact ih9 _ _ _ _ _
   | exact ih10 _ _ _ _ _ _ _
   | exact ih11 _ _ _ _
   | exact ih12 _ _ _ _ _
   | exact expr_newSpans.mono _ _
   | exact expr_spans_then.mono _ _ _
   | exact LeO.none _
   | refine LeO.ite ?_ ?_
   | refine LeO.bind ?_ (fun _ => ?_)
  ·intro y0 y1 y2 y3 y4 y5 y6 y7 y8 y9 y10 y11
   unfold expr_match.l3
   repeat' first
   | (with_reducible exact ih0 _ _ _ _)
   | (with_reducible exact ih1 _ _ _)
   | (with_reducible exact ih2 _ _ _ _ _ _ _)
   | (with_reducible exact ih3 _ _ _ _ _ _ _ _)
   | (with_reducible exact ih4 _ _ _ _ _ _ _ _)
   | (with_reducible exact ih5 _ _ _ _ _ _ _ _ _ _ _ _)
   | (with_reducible exact ih6 _ _ _ _ _ _ _ _ _ _ _ _ _ _ _)
   | (with_reducible exact ih7 _ _ _ _ _)
   | (with_reducible exact ih8 _ _ _ _)
   | (with_reducible exact ih9 _ _ _ _ _)
   | (with_reducible exact ih10 _ _ _ _ _ _ _)
   | (with_reducible exact ih11 _ _ _ _)
   | (with_reducible exact ih12 _ _ _ _ _)
   | (with_reducible exact expr_newSpans.mono _ _)
   | (with_reducible exact expr_spans_then.mono _ _ _)
   | (with_reducible exact LeO.refl _)
   | (with_reducible exact LeO.none _)
   | (with_reducible refine LeO.ite ?_ ?_)
   | (with_reducible refine LeO.bind ?_ (fun _ => ?_))
   | exact ih0 _ _ _ _
   | exact ih1 _ _ _
   | exact ih2 _ _ _ _ _ _ _
   | exact ih3 _ _ _ _ _ _ _ _
   | exact ih4 _ _ _ _ _ _ _ _
   | exact ih5 _ _ _ _ _ _ _ _ _ _ _ _
   | exact ih6 _ _ _ _ _ _ _ _ _ _ _ _ _ _ _
   | exact ih7 _ _ _ _ _
   | exact ih8 _ _ _ _
   | exact ih9 _ _ _ _ _
   | exact ih10 _ _ _ _ _ _ _
   | exact ih11 _ _ _ _
   | exact ih12 _ _ _ _ _
   | exact expr_newSpans.mono _ _
   | exact expr_spans_then.mono _ _ _
   | exact LeO.none _
   | refine LeO.ite ?_ ?_
   | refine LeO.bind ?_ (fun _ => ?_)
  ·intro y0 y1 y2 y3 y4 y5 y6 y7 y8 y9 y10 y11 y12 y13 y14
   unfold expr_match.l4
   repeat' first
   | (with_reducible exact ih0 _ _ _ _)
   | (with_reducible exact ih1 _ _ _)
   | (with_reducible exact ih2 _ _ _ _ _ _ _)
   | (with_reducible exact ih3 _ _ _ _ _ _ _ _)
   | (with_reducible exact ih4 _ _ _ _ _ _ _ _)
   | (with_reducible exact ih5 _ _ _ _ _ _ _ _ _ _ _ _)
   | (with_reducible exact ih6 _ _ _ _ _ _ _ _ _ _ _ _ _ _ _)
   | (with_reducible exact ih7 _ _ _ _ _)
   | (with_reducible exact ih8 _ _ _ _)
   | (with_reducible exact ih9 _ _ _ _ _)
   | (with_reducible exact ih10 _ _ _ _ _ _ _)
   | (with_reducible exact ih11 _ _ _ _)
   | (with_reducible exact ih12 _ _ _ _ _)
   | (with_reducible exact expr_newSpans.mono _ _)
   | (with_reducible exact expr_spans_then.mono _ _ _)
   | (with_reducible exact LeO.refl _)
   | (with_reducible exact LeO.none _)
   | (with_reducible refine LeO.ite ?_ ?_)
   | (with_reducible refine LeO.bind ?_ (fun _ => ?_))
   | exact ih0 _ _ _ _
   | exact ih1 _ _ _
   | exact ih2 _ _ _ _ _ _ _
   | exact ih3 _ _ _ _ _ _ _ _
   | exact ih4 _ _ _ _ _ _ _ _
   | exact ih5 _ _ _ _ _ _ _ _ _ _ _ _
   | exact ih6 _ _ _ _ _ _ _ _ _ _ _ _ _ _ _
   | exact ih7 _ _ _ _ _
   | exact ih8 _ _ _ _
   | exact ih9 _ _ _ _ _
   | exact ih10 _ _ _ _ _ _ _
   | exact ih11 _ _ _ _
   | exact ih12 _ _ _ _ _
   | exact expr_newSpans.mono _ _
   | exact expr_spans_then.mono _ _ _
   | exact LeO.none _
   | refine LeO.ite ?_ ?_
   | refine LeO.bind ?_ (fun _ => ?_)
  ·intro y0 y1 y2 y3 y4
   unfold expr_match.l5
   repeat' first
   | (with_reducible exact ih0 _ _ _ _)
   | (with_reducible exact ih1 _ _ _)
   | (with_reducible exact ih2 _ _ _ _ _ _ _)
   | (with_reducible exact ih3 _ _ _ _ _ _ _ _)
   | (with_reducible exact ih4 _ _ _ _ _ _ _ _)
   | (with_reducible exact ih5 _ _ _ _ _ _ _ _ _ _ _ _)
   | (with_reducible exact ih6 _ _ _ _ _ _ _ _ _ _ _ _ _ _ _)
   | (with_reducible exact ih7 _ _ _ _ _)
   | (with_reducible exact ih8 _ _ _ _)
   | (with_reducible exact ih9 _ _ _ _ _)
   | (with_reducible exact ih10 _ _ _ _ _ _ _)
   | (with_reducible exact ih11 _ _ _ _)
   | (with_reducible exact ih12 _ _ _ _ _)
   | (with_reducible exact expr_newSpans.mono _ _)
   | (with_reducible exact expr_spans_then.mono _ _ _)
   | (with_reducible exact LeO.refl _)
   | (with_reducible exact LeO.none _)
   | (with_reducible refine LeO.ite ?_ ?_)
   | (with_reducible refine LeO.bind ?_ (fun _ => ?_))
   | exact ih0 _ _ _ _
   | exact ih1 _ _ _
   | exact ih2 _ _ _ _ _ _ _
   | exact ih3 _ _ _ _ _ _ _ _
   | exact ih4 _ _ _ _ _ _ _ _
   | exact ih5 _ _ _ _ _ _ _ _ _ _ _ _
   | exact ih6 _ _ _ _ _ _ _ _ _ _ _ _ _ _ _
   | exact ih7 _ _ _ _ _
   | exact ih8 _ _ _ _
   | exact ih9 _ _ _ _ _
   | exact ih10 _ _ _ _ _ _ _
   | exact ih11 _ _ _ _
   | exact ih12 _ _ _ _ _
   | exact expr_newSpans.mono _ _
   | exact expr_spans_then.mono _ _ _
   | exact LeO.none _
   | refine LeO.ite ?_ ?_
   | refine LeO.bind ?_ (fun _ => ?_)
  ·intro y0 y1 y2 y3
   unfold expr_match.l6
   repeat' first
   | (with_reducible exact ih0 _ _ _ _)
   | (with_reducible exact ih1 _ _ _)
   | (with_reducible exact ih2 _ _ _ _ _ _ _)
   | (with_reducible exact ih3 _ _ _ _ _ _ _ _)
   | (with_reducible exact ih4 _ _ _ _ _ _ _ _)
   | (with_reducible exact ih5 _ _ _ _ _ _ _ _ _ _ _ _)
   | (with_reducible exact ih6 _ _ _ _ _ _ _ _ _ _ _ _ _ _ _)
   | (with_reducible exact ih7 _ _ _ _ _)
   | (with_reducible exact ih8 _ _ _ _)
   | (with_reducible exact ih9 _ _ _ _ _)
   | (with_reducible exact ih10 _ _ _ _ _ _ _)
   | (with_reducible exact ih11 _ _ _ _)
   | (with_reducible exact ih12 _ _ _ _ _)
   | (with_reducible exact expr_newSpans.mono _ _)
   | (with_reducible exact expr_spans_then.mono _ _ _)
   | (with_reducible exact LeO.refl _)
   | (with_reducible exact LeO.none _)
   | (with_reducible refine LeO.ite ?_ ?_)
   | (with_reducible refine LeO.bind ?_ (fun _ => ?_))
   | exact ih0 _ _ _ _
   | exact ih1 _ _ _
   | exact ih2 _ _ _ _ _ _ _
   | exact ih3 _ _ _ _ _ _ _ _
   | exact ih4 _ _ _ _ _ _ _ _
   | exact ih5 _ _ _ _ _ _ _ _ _ _ _ _
   | exact ih6 _ _ _ _ _ _ _ _ _ _ _ _ _ _ _
   | exact ih7 _ _ _ _ _
   | exact ih8 _ _ _ _
   | exact ih9 _ _ _ _ _
   | exact ih10 _ _ _ _ _ _ _
   | exact ih11 _ _ _ _
   | exact ih12 _ _ _ _ _
   | exact expr_newSpans.mono _ _
   | exact expr_spans_then.mono _ _ _
   | exact LeO.none _
   | refine LeO.ite ?_ ?_
   | refine LeO.bind ?_ (fun _ => ?_)
  ·intro y0 y1 y2 y3 y4
   unfold expr_match.l7
   repeat' first
   | (with_reducible exact ih0 _ _ _ _)
   | (with_reducible exact ih1 _ _ _)
   | (with_reducible exact ih2 _ _ _ _ _ _ _)
   | (with_reducible exact ih3 _ _ _ _ _ _ _ _)
   | (with_reducible exact ih4 _ _ _ _ _ _ _ _)
   | (with_reducible exact ih5 _ _ _ _ _ _ _ _ _ _ _ _)
   | (with_reducible exact ih6 _ _ _ _ _ _ _ _ _ _ _ _ _ _ _)
   | (with_reducible exact ih7 _ _ _ _ _)
   | (with_reducible exact ih8 _ _ _ _)
   | (with_reducible exact ih9 _ _ _ _ _)
   | (with_reducible exact ih10 _ _ _ _ _ _ _)
   | (with_reducible exact ih11 _ _ _ _)
   | (with_reducible exact ih12 _ _ _ _ _)
   | (with_reducible exact expr_newSpans.mono _ _)
   | (with_reducible exact expr_spans_then.mono _ _ _)
   | (with_reducible exact LeO.refl _)
   | (with_reducible exact LeO.none _)
   | (with_reducible refine LeO.ite ?_ ?_)
   | (with_reducible refine LeO.bind ?_ (fun _ => ?_))
   | exact ih0 _ _ _ _
   | exact ih1 _ _ _
   | exact ih2 _ _ _ _ _ _ _
   | exact ih3 _ _ _ _ _ _ _ _
   | exact ih4 _ _ _ _ _ _ _ _
   | exact ih5 _ _ _ _ _ _ _ _ _ _ _ _
   | exact ih6 _ _ _ _ _ _ _ _ _ _ _ _ _ _ _
   | exact ih7 _ _ _ _ _
   | exact ih8 _ _ _ _
   | exact ih9 _ _ _ _ _
   | exact ih10 _ _ _ _ _ _ _
   | exact ih11 _ _ _ _
   | exact ih12 _ _ _ _ _
   | exact expr_newSpans.mono _ _
   | exact expr_spans_then.mono _ _ _
   | exact LeO.none _
   | refine LeO.ite ?_ ?_
   | refine LeO.bind ?_ (fun _ => ?_)
  ·intro y0 y1 y2 y3 y4 y5 y6
   unfold expr_match.l8
   repeat' first
   | (with_reducible exact ih0 _ _ _ _)
   | (with_reducible exact ih1 _ _ _)
   | (with_reducible exact ih2 _ _ _ _ _ _ _)
   | (with_reducible exact ih3 _ _ _ _ _ _ _ _)
   | (with_reducible exact ih4 _ _ _ _ _ _ _ _)
   | (with_reducible exact ih5 _ _ _ _ _ _ _ _ _ _ _ _)
   | (with_reducible exact ih6 _ _ _ _ _ _ _ _ _ _ _ _ _ _ _)
   | (with_reducible exact ih7 _ _ _ _ _)
   | (with_reducible exact ih8 _ _ _ _)
   | (with_reducible exact ih9 _ _ _ _ _)
   | (with_reducible exact ih10 _ _ _ _ _ _ _)
   | (with_reducible exact ih11 _ _ _ _)
   | (with_reducible exact ih12 _ _ _ _ _)
   | (with_reducible exact expr_newSpans.mono _ _)
   | (with_reducible exact expr_spans_then.mono _ _ _)
   | (with_reducible exact LeO.refl _)
   | (with_reducible exact LeO.none _)
   | (with_reducible refine LeO.ite ?_ ?_)
   | (with_reducible refine LeO.bind ?_ (fun _ => ?_))
   | exact ih0 _ _ _ _
   | exact ih1 _ _ _
   | exact ih2 _ _ _ _ _ _ _
   | exact ih3 _ _ _ _ _ _ _ _
   | exact ih4 _ _ _ _ _ _ _ _
   | exact ih5 _ _ _ _ _ _ _ _ _ _ _ _
   | exact ih6 _ _ _ _ _ _ _ _ _ _ _ _ _ _ _
   | exact ih7 _ _ _ _ _
   | exact ih8 _ _ _ _
   | exact ih9 _ _ _ _ _
   | exact ih10 _ _ _ _ _ _ _
   | exact ih11 _ _ _ _
   | exact ih12 _ _ _ _ _
   | exact expr_newSpans.mono _ _
   | exact expr_spans_then.mono _ _ _
   | exact LeO.none _
   | refine LeO.ite ?_ ?_
   | refine LeO.bind ?_ (fun _ => ?_)
  ·intro y0 y1 y2 y3
   unfold expr_match.l9
   repeat' first
   | (with_reducible exact ih0 _ _ _ _)
   | (with_reducible exact ih1 _ _ _)
   | (with_reducible exact ih2 _ _ _ _ _ _ _)
   | (with_reducible exact ih3 _ _ _ _ _ _ _ _)
   | (with_reducible exact ih4 _ _ _ _ _ _ _ _)
   | (with_reducible exact ih5 _ _ _ _ _ _ _ _ _ _ _ _)
   | (with_reducible exact ih6 _ _ _ _ _ _ _ _ _ _ _ _ _ _ _)
   | (with_reducible exact ih7 _ _ _ _ _)
   | (with_reducible exact ih8 _ _ _ _)
   | (with_reducible exact ih9 _ _ _ _ _)
   | (with_reducible exact ih10 _ _ _ _ _ _ _)
   | (with_reducible exact ih11 _ _ _ _)
   | (with_reducible exact ih12 _ _ _ _ _)
   | (with_reducible exact expr_newSpans.mono _ _)
   | (with_reducible exact expr_spans_then.mono _ _ _)
   | (with_reducible exact LeO.refl _)
   | (with_reducible exact LeO.none _)
   | (with_reducible refine LeO.ite ?_ ?_)
   | (with_reducible refine LeO.bind ?_ (fun _ => ?_))
   | exact ih0 _ _ _ _
   | exact ih1 _ _ _
   | exact ih2 _ _ _ _ _ _ _
   | exact ih3 _ _ _ _ _ _ _ _
   | exact ih4 _ _ _ _ _ _ _ _
   | exact ih5 _ _ _ _ _ _ _ _ _ _ _ _
   | exact ih6 _ _ _ _ _ _ _ _ _ _ _ _ _ _ _
   | exact ih7 _ _ _ _ _
   | exact ih8 _ _ _ _
   | exact ih9 _ _ _ _ _
   | exact ih10 _ _ _ _ _ _ _
   | exact ih11 _ _ _ _
   | exact ih12 _ _ _ _ _
   | exact expr_newSpans.mono _ _
   | exact expr_spans_then.mono _ _ _
   | exact LeO.none _
   | refine LeO.ite ?_ ?_
   | refine LeO.bind ?_ (fun _ => ?_)
  ·intro y0 y1 y2 y3 y4
   unfold expr_match.l10
   repeat' first
   | (with_reducible exact ih0 _ _ _ _)
   | (with_reducible exact ih1 _ _ _)
   | (with_reducible exact ih2 _ _ _ _ _ _ _)
   | (with_reducible exact ih3 _ _ _ _ _ _ _ _)
   | (with_reducible exact ih4 _ _ _ _ _ _ _ _)
   | (with_reducible exact ih5 _ _ _ _ _ _ _ _ _ _ _ _)
   | (with_reducible exact ih6 _ _ _ _ _ _ _ _ _ _ _ _ _ _ _)
   | (with_reducible exact ih7 _ _ _ _ _)
   | (with_reducible exact ih8 _ _ _ _)
   | (with_reducible exact ih9 _ _ _ _ _)
   | (with_reducible exact ih10 _ _ _ _ _ _ _)
   | (with_reducible exact ih11 _ _ _ _)
   | (with_reducible exact ih12 _ _ _ _ _)
   | (with_reducible exact expr_newSpans.mono _ _)
   | (with_reducible exact expr_spans_then.mono _ _ _)
   | (with_reducible exact LeO.refl _)
   | (with_reducible exact LeO.none _)
   | (with_reducible refine LeO.ite ?_ ?_)
   | (with_reducible refine LeO.bind ?_ (fun _ => ?_))
   | exact ih0 _ _ _ _
   | exact ih1 _ _ _
   | exact ih2 _ _ _ _ _ _ _
   | exact ih3 _ _ _ _ _ _ _ _
   | exact ih4 _ _ _ _ _ _ _ _
   | exact ih5 _ _ _ _ _ _ _ _ _ _ _ _
   | exact ih6 _ _ _ _ _ _ _ _ _ _ _ _ _ _ _
   | exact ih7 _ _ _ _ _
   | exact ih8 _ _ _ _
   | exact ih9 _ _ _ _ _
   | exact ih10 _ _ _ _ _ _ _
   | exact ih11 _ _ _ _
   | exact ih12 _ _ _ _ _
   | exact expr_newSpans.mono _ _
   | exact expr_spans_then.mono _ _ _
   | exact LeO.none _
   | refine LeO.ite ?_ ?_
   | refine LeO.bind ?_ (fun _ => ?_)
theorem expr_match.mono : ∀ a0 a1 a2 a3 k, LeO (expr_match.f k a0 a1 a2 a3) (expr_match.f (k + 1) a0 a1 a2 a3) := by
 intro a0 a1 a2 a3 k
 obtain ⟨ih0, ih1, ih2, ih3, ih4, ih5, ih6, ih7, ih8, ih9, ih10, ih11, ih12⟩ := expr_match.mono_l k
 exact ih0 a0 a1 a2 a3
def expr_match.T14 : Bool × List (List Nat × List Nat) := (true, [([], []), ([], []), ([0, 1], [0, 1]), ([2], [2]), ([3], [3]), ([], []), ([5], [5]), ([4, 6], [4, 6])])
def expr_match.B14 : List Nat := [0, 0, 3, 7, 15, 0, 32, 127]
theorem expr_match.tab14 : rtab .any (opsOf Try.f60 14) = expr_match.T14 := by kernel_rfl
theorem expr_match.bits14 : waitsOk expr_match.T14.2 expr_match.B14 = true := by kernel_rfl
def expr_match.T28 : Bool × List (List Nat × List Nat) := (true, [([], []), ([], []), ([0, 1], [0, 1]), ([2], [2]), ([], []), ([3, 4], [3, 4]), ([5], [5]), ([], []), ([], []), ([7, 8], [7, 8]), ([9], [9]), ([], []), ([10, 11], [10, 11]), ([12], [12]), ([6, 13], [6, 13]), ([3, 4, 0, 1, 2, 3, 4, 5, 6, 7, 8, 9, 10, 11, 12, 13, 14], [3, 4]), ([15, 14, 0, 1, 2, 3, 4, 5, 6, 7, 8, 9, 10, 11, 12, 13, 14], [14, 15])])
def expr_match.B28 : List Nat := [0, 0, 3, 7, 0, 31, 63, 0, 0, 384, 896, 0, 3968, 8064, 16383, 32767, 65535]
theorem expr_match.tab28 : rtab .any (opsOf Try.f60 28) = expr_match.T28 := by kernel_rfl
theorem expr_match.bits28 : waitsOk expr_match.T28.2 expr_match.B28 = true := by kernel_rfl
def expr_match.T30 : Bool × List (List Nat × List Nat) := (true, [([], []), ([], []), ([0, 1], [0, 1]), ([2], [2]), ([], []), ([], []), ([], []), ([5, 6], [5, 6]), ([7], [7]), ([], []), ([8, 9], [8, 9]), ([10], [10]), ([3, 4, 0, 1, 2, 3, 4, 5, 6, 7, 8, 9, 10, 11], [3, 4]), ([12, 11, 0, 1, 2, 3, 4, 5, 6, 7, 8, 9, 10, 11], [11, 12])])
def expr_match.B30 : List Nat := [0, 0, 3, 7, 0, 0, 0, 96, 224, 0, 992, 2016, 4095, 8191]
theorem expr_match.tab30 : rtab .any (opsOf Try.f60 30) = expr_match.T30 := by kernel_rfl
theorem expr_match.bits30 : waitsOk expr_match.T30.2 expr_match.B30 = true := by kernel_rfl
def expr_match.T32 : Bool × List (List Nat × List Nat) := (true, [([], []), ([], []), ([0, 1], [0, 1]), ([2], [2]), ([], []), ([3, 4], [3, 4]), ([5], [5]), ([], []), ([], []), ([7, 8], [7, 8]), ([9], [9]), ([], []), ([10, 11], [10, 11]), ([12], [12]), ([6, 13], [6, 13]), ([3, 4, 0, 1, 2, 3, 4, 5, 6, 7, 8, 9, 10, 11, 12, 13, 14], [3, 4]), ([15, 14, 0, 1, 2, 3, 4, 5, 6, 7, 8, 9, 10, 11, 12, 13, 14], [14, 15])])
def expr_match.B32 : List Nat := [0, 0, 3, 7, 0, 31, 63, 0, 0, 384, 896, 0, 3968, 8064, 16383, 32767, 65535]
theorem expr_match.tab32 : rtab .any (opsOf Try.f60 32) = expr_match.T32 := by kernel_rfl
theorem expr_match.bits32 : waitsOk expr_match.T32.2 expr_match.B32 = true := by kernel_rfl
def expr_match.T56 : Bool × List (List Nat × List Nat) := (true, [([], []), ([], []), ([0, 1], [0, 1]), ([2], [2]), ([], []), ([3, 4], [3, 4]), ([5], [5]), ([], []), ([], []), ([7, 8], [7, 8]), ([9], [9]), ([], []), ([10, 11], [10, 11]), ([12], [12]), ([6, 13], [6, 13]), ([3, 4, 0, 1, 2, 3, 4, 5, 6, 7, 8, 9, 10, 11, 12, 13, 14], [3, 4]), ([15, 14, 0, 1, 2, 3, 4, 5, 6, 7, 8, 9, 10, 11, 12, 13, 14], [14, 15])])
def expr_match.B56 : List Nat := [0, 0, 3, 7, 0, 31, 63, 0, 0, 384, 896, 0, 3968, 8064, 16383, 32767, 65535]
theorem expr_match.tab56 : rtab .any (opsOf Try.f60 56) = expr_match.T56 := by kernel_rfl
theorem expr_match.bits56 : waitsOk expr_match.T56.2 expr_match.B56 = true := by kernel_rfl
set_option maxHeartbeats 8000000 in
set_option maxRecDepth 100000 in
theorem expr_match.calls (k : Nat) : ∀ (a0_0 : Int) (a0_1 : Int) (A0_2 : Option Addr) (c0_2 : Nat) (l0_2 : List (S24)) (a1 : ByteArray) (r : List (List Int)) (w : World) (hr0_2 : Kd.C k24 w A0_2 l0_2.length l0_2) (hc0_2 : l0_2.length ≤ c0_2) (h : expr_match.f k a0_0 a0_1 l0_2 a1 = some r),
  Calls Try.prog 60 #[.agg #[.int .i64 a0_0, .int .i64 a0_1, .slice A0_2 l0_2.length c0_2], .string a1] w fun e w' => ∃ v0_ : Value, e = .returned (v0_) ∧ Kd.S (Kd.slice 71 (Kd.int .u64)) 70 w' w.heap.size (fun _ => True) v0_ r ∧ Below w.heap.size w w' := by
 induction k using Nat.strongRecOn with
 | _ k ih =>
 intro a0_0 a0_1 A0_2 c0_2 l0_2 a1 r w hr0_2 hc0_2 h
 cases k with
 | zero => exact absurd h (by simp [expr_match.f])
 | succ k =>
 simp only [expr_match.f] at h
 have hu24 := Try.underlying24
 have HR0_2 := Aside0.mk hr0_2
 have HC0_2 := Aside0.mk hc0_2
 clear hr0_2 hc0_2
 have HB := Aside0.mk (Below.refl w.heap.size w)
 have H : ((expr_newSpans.f k (a1.size : Int)).bind fun t294 => (if a0_0 = 2 then (expr_match.l0 k t294 (t294.length : Int) 0) else (if a0_0 = 3 then (expr_match.l1 k a1 (a1.size : Int) t294 0 a0_0 a0_1 l0_2) else (if a0_0 = 4 then (expr_match.j2 k a1 (a1.size : Int) t294 a0_0 (a0_0 == 4) a0_0 a0_1 l0_2) else (expr_match.j2 k a1 (a1.size : Int) t294 a0_0 (a0_0 == 6) a0_0 a0_1 l0_2))))) = some r := h
 clear h
 replace H := Option.bind_eq_some_iff.mp H
 obtain ⟨t294, A30, H⟩ := H
 replace H : (if a0_0 = 2 then (expr_match.l0 k t294 (t294.length : Int) 0) else (if a0_0 = 3 then (expr_match.l1 k a1 (a1.size : Int) t294 0 a0_0 a0_1 l0_2) else (if a0_0 = 4 then (expr_match.j2 k a1 (a1.size : Int) t294 a0_0 (a0_0 == 4) a0_0 a0_1 l0_2) else (expr_match.j2 k a1 (a1.size : Int) t294 a0_0 (a0_0 == 6) a0_0 a0_1 l0_2)))) = some r := H
 have A3 := Aside0.mk A30
 clear A30
 have HC4 := Aside0.mk H
 clear H
 go_enter Try.func60, Try.ntmps60
 go_upto_if 29 with (first | ((with_reducible refine gate_dst (N := 2) rfl ?_); refine box_event ?hg (N := 2) ?hd (cs := #[.int .i64 a0_0, .int .i64 a0_1, .slice A0_2 l0_2.length c0_2]) (t := 24) ?hr ?_; (case hd => rfl); (case hg => rfl); (case hr => first | (go_simp; done) | (go_simp; rfl)); intro gb293 hg w5 hbox hb; have n0_ := Aside0.mk (below_step (bB) hb); have n1_ := Aside0.mk (hbox); have n2_ := Aside0.mk ((by rw [hg]; exact (below_size (bB)) : w.heap.size ≤ gb293)); have n3_ := Aside0.mk ((by rw [hg]; exact (below_size (bB)) : w.heap.size ≤ gb293)); clear HB; have HB := n0_; have BK293 := n1_; have GW293 := n2_; have GE293 := n3_; clear n0_ n1_ n2_ n3_; clear hb hbox hg) | ((with_reducible refine gate_callee (f := 74) rfl ?_); (fail_if_success (have chk_ := HO296)); refine goesL_ (some 26) rfl rfl Try.func74 (by kernel_rfl) rfl #[.int .i64 (a1.size : Int)] rfl (by (try simp only [List.map_toArray, List.map_cons, List.map_nil]); first | done | rfl | (simp only [List.length_drop, List.length_take]; rfl) | (simp only [Int.ofNat_lt, Int.ofNat_le]; rfl)) ?_; (with_reducible refine (expr_newSpans.calls k (a1.size : Int) t294 _ A3.out).mono ?_); rintro e w6 ⟨v295, rfl, ho0, hb⟩; refine ⟨_, rfl, ?_⟩; have n0_ := Aside0.mk (Kd.S_lower ho0 (below_size (bB))); have n1_ := Aside0.mk (blk_below (g := gb293) (o := .cells #[.int .i64 a0_0, .int .i64 a0_1, .slice A0_2 l0_2.length c0_2] 24 (0, 0)) (bK) hb); have n2_ := Aside0.mk (below_step (bB) hb); clear BK293; clear HB; have HO296 := n0_; have BK293 := n1_; have HB := n2_; clear n0_ n1_ n2_; (try clear hb); (try clear hb2); (try clear hk); (try clear hi); (try clear ho0); have hcz7_0 : w6.cell? ⟨gb293, 0, none⟩ = some (.int .i64 a0_0) := (blk_cell BK293.out 0).trans rfl; have hcz7_1 : w6.cell? ⟨gb293, 1, none⟩ = some (.int .i64 a0_1) := (blk_cell BK293.out 1).trans rfl; have hcz7_2 : w6.cell? ⟨gb293, 2, none⟩ = some (.slice A0_2 l0_2.length c0_2) := (blk_cell BK293.out 2).trans rfl; have hfz7_0 := blk_frozen BK293.out 0; have hfz7_1 := blk_frozen BK293.out 1; have hfz7_2 := blk_frozen BK293.out 2))
 (try simp only [Act.put, List.setIfInBounds_toArray, List.set_cons_zero, List.set_cons_succ])
 have H := HC4.out
 clear HC4
 try clear hcz7_0
 try clear hcz7_1
 try clear hcz7_2
 try clear hfz7_0
 try clear hfz7_1
 try clear hfz7_2
 by_cases c8 : a0_0 = 2
 ·rw [if_pos c8] at H
  have c8b0 : (a0_0 == 2) = true := beq_iff_eq.mpr c8
  have c8b1 : (a0_0 != 2) = false := bne_eq_false_iff_eq.mpr c8
  clear c8
  (first | rw [c8b0] | (simp only [i64_w, i32_w]; rw [c8b0]) | skip)
  have H' := Aside0.mk H
  clear H
  obtain ⟨Ao9, co9, eo9⟩ := Kd.S_slice HO296.out
  subst eo9
  go_wp2
  go_loopg [33] k (fun kq v33 w' => ∃ (x6_1 : List (List Int)) (x33_1 : Int), v33 = .int .i64 x33_1 ∧ Aside0 (expr_match.l0 kq x6_1 (t294.length : Int) x33_1 = some r) ∧ Aside0 (kq ≤ k) ∧ Aside0 (Kd.S (Kd.slice 71 (Kd.int .u64)) 70 w' w.heap.size (fun _ => True) (.slice Ao9 t294.length co9) x6_1) ∧ Aside0 (w'.heap[gb293]? = some (.cells #[.int .i64 a0_0, .int .i64 a0_1, (.slice A0_2 l0_2.length c0_2)] 24 (0, 0))) ∧ Aside0 (Below w.heap.size w w'))
  case atStart => exact ⟨(t294), (0), (by first | rfl | (simp; done) | (simp [*]; done)), H', ⟨Nat.le_refl _⟩, ⟨by (with_reducible repeat (first | apply Kd.S_alloc | apply Kd.S_drewN | apply Kd.S_drew)); exact HO296.out⟩, ⟨bK⟩, ⟨bB⟩⟩
  clear H'
  try clear c8
  try clear c8b0
  try clear c8b1
  try clear hcz7_0
  try clear hcz7_1
  try clear hcz7_2
  try clear hfz7_0
  try clear hfz7_1
  try clear hfz7_2
  obtain ⟨x6_1, x33_1, rfl, HA, HK1, HO_6, BK293, HB⟩ := hrel
  have hl6_1 := (Kd.S_reads' HO_6.out).1
  rw [hl6_1] at HO_6
  (try simp only [hl6_1])
  (try simp only [hl6_1] at BK293)
  cases gk with
  | zero => exact absurd HA.out (by simp [expr_match.l0])
  | succ k1 => ?_
  have H := HA.out
  clear HA
  simp only [expr_match.l0] at H
  by_cases c10 : x33_1 < (t294.length : Int)
  rotate_left
  ·rw [if_neg c10] at H
   have c10b0 : decide (x33_1 < (t294.length : Int)) = false := decide_eq_false c10
   (try (have c10b0h := c10b0; simp only [hl6_1] at c10b0h))
   clear c10
   obtain rfl := Option.some.inj H
   go_wp2
   go_ret
   exact ⟨_, by first | rfl | (simp [errW_none, errW_some] <;> rfl) | (simp [*, errW_none, errW_some] <;> rfl), by (with_reducible repeat (first | apply Kd.S_alloc | apply Kd.S_drewN | apply Kd.S_drew)); exact HO_6.out, bB⟩
  rw [if_pos c10] at H
  have c10b0 : decide (x33_1 < (t294.length : Int)) = true := decide_eq_true c10
  (try (have c10b0h := c10b0; simp only [hl6_1] at c10b0h))
  clear c10
  by_cases c11 : 0 ≤ x33_1
  rotate_left
  ·rw [if_neg c11] at H
   exact absurd H (by simp)
  rw [if_pos c11] at H
  have c11b0 : decide (0 ≤ x33_1) = true := decide_eq_true c11
  clear c11
  by_cases c12 : x33_1 < (x6_1.length : Int)
  rotate_left
  ·rw [if_neg c12] at H
   exact absurd H (by simp)
  rw [if_pos c12] at H
  have c12b0 : decide (x33_1 < (x6_1.length : Int)) = true := decide_eq_true c12
  (try (have c12b0h := c12b0; simp only [hl6_1] at c12b0h))
  clear c12
  obtain ⟨ji13, hji13⟩ : ∃ j_ : Int, (wrap64 (Int.tdiv x33_1 64)) = j_ := ⟨_, rfl⟩
  replace H : (if 0 ≤ (ji13) then (if (ji13) < ((rd_L4 x6_1 x33_1).length : Int) then (if 0 ≤ (IntKind.u64.wrap (Int.tmod x33_1 64)) then (expr_match.l0 k1 (x6_1.set (x33_1 : Int).toNat ((rd_L4 x6_1 x33_1).set ((ji13) : Int).toNat (Go.bits .or .u64 (rd (rd_L4 x6_1 x33_1) (ji13)) (shl .u64 1 (IntKind.u64.wrap (Int.tmod x33_1 64)))))) (t294.length : Int) (wrap64 (x33_1 + 1))) else (none)) else (none)) else (none)) = some r := by first | (rw [hji13] at H; exact H) | (simp only [hji13] at H ⊢; exact H)
  have hji13w : (IntKind.i64.wrap (Int.tdiv x33_1 64)) = ji13 := (i64_w _).trans hji13
  by_cases c14 : 0 ≤ (ji13)
  rotate_left
  ·rw [if_neg c14] at H
   exact absurd H (by simp)
  rw [if_pos c14] at H
  have c14b0 : decide (0 ≤ (ji13)) = true := decide_eq_true c14
  clear c14
  by_cases c15 : (ji13) < ((rd_L4 x6_1 x33_1).length : Int)
  rotate_left
  ·rw [if_neg c15] at H
   exact absurd H (by simp)
  rw [if_pos c15] at H
  have c15b0 : decide ((ji13) < ((rd_L4 x6_1 x33_1).length : Int)) = true := decide_eq_true c15
  (try (have c15b0h := c15b0; simp only [hl6_1] at c15b0h))
  clear c15
  obtain ⟨ji16, hji16⟩ : ∃ j_ : Int, (IntKind.u64.wrap (Int.tmod x33_1 64)) = j_ := ⟨_, rfl⟩
  replace H : (if 0 ≤ (ji16) then (expr_match.l0 k1 (x6_1.set (x33_1 : Int).toNat ((rd_L4 x6_1 x33_1).set ((ji13) : Int).toNat (Go.bits .or .u64 (rd (rd_L4 x6_1 x33_1) (ji13)) (shl .u64 1 (ji16))))) (t294.length : Int) (wrap64 (x33_1 + 1))) else (none)) = some r := by first | (rw [hji16] at H; exact H) | (simp only [hji16] at H ⊢; exact H)
  by_cases c17 : 0 ≤ (ji16)
  rotate_left
  ·rw [if_neg c17] at H
   exact absurd H (by simp)
  rw [if_pos c17] at H
  have c17b0 := eq_true c17
  have c17b1 : decide (0 ≤ (ji16)) = true := decide_eq_true c17
  clear c17
  obtain ⟨ji18, hji18⟩ : ∃ j_ : Int, (shl .u64 1 (ji16)) = j_ := ⟨_, rfl⟩
  replace H : (expr_match.l0 k1 (x6_1.set (x33_1 : Int).toNat ((rd_L4 x6_1 x33_1).set ((ji13) : Int).toNat (Go.bits .or .u64 (rd (rd_L4 x6_1 x33_1) (ji13)) (ji18)))) (t294.length : Int) (wrap64 (x33_1 + 1))) = some r := by first | (rw [hji18] at H; exact H) | (simp only [hji18] at H ⊢; exact H)
  have hji18_ : (IntKind.u64.wrap (1 * 2 ^ min (ji16).toNat 64)) = ji18 := hji18
  have hji18z : (ji16) ≤ 64 → (IntKind.u64.wrap (1 * 2 ^ (ji16).toNat)) = ji18 := shl_small hji18
  have hji18u : (IntKind.u64.wrap (2 ^ min (ji16).toNat 64)) = ji18 := by have h_ := hji18_; rw [Int.one_mul] at h_; exact h_
  have hji18v : (ji16) ≤ 64 → (IntKind.u64.wrap (2 ^ (ji16).toNat)) = ji18 := fun hle_ => by have h_ := hji18z hle_; rw [Int.one_mul] at h_; exact h_
  obtain ⟨y299, hy299⟩ : ∃ y_ : List Int, y_ = ((rd_L4 x6_1 x33_1).set ((ji13) : Int).toNat (Go.bits .or .u64 (rd (rd_L4 x6_1 x33_1) (ji13)) (ji18))) := ⟨_, rfl⟩
  replace H : (expr_match.l0 k1 (x6_1.set (x33_1 : Int).toNat y299) (t294.length : Int) (wrap64 (x33_1 + 1))) = some r := by first | (rw [hy299]; with_reducible exact H) | (have H2_ := (Option.bind_some _ _).symm.trans H; rw [hy299]; with_reducible exact H2_) | (have H2_ := (Option.bind_some _ _).symm.trans H; with_reducible exact H2_) | with_reducible exact H | (rw [hy299]; exact H) | exact H
  have Ny299 := Aside0.mk hy299
  clear hy299
  obtain ⟨y301, hy301⟩ : ∃ y_ : List (List Int), y_ = (x6_1.set (x33_1 : Int).toNat y299) := ⟨_, rfl⟩
  replace H : (expr_match.l0 k1 y301 (t294.length : Int) (wrap64 (x33_1 + 1))) = some r := by first | (rw [hy301]; with_reducible exact H) | (have H2_ := (Option.bind_some _ _).symm.trans H; rw [hy301]; with_reducible exact H2_) | (have H2_ := (Option.bind_some _ _).symm.trans H; with_reducible exact H2_) | with_reducible exact H | (rw [hy301]; exact H) | exact H
  have Ny301 := Aside0.mk hy301
  clear hy301
  have H' := Aside0.mk H
  clear H
  have p297 : 0 ≤ (x33_1 : Int) := of_decide_eq_true (by first | (with_reducible assumption) | assumption)
  have q297 : x33_1 < (x6_1.length : Int) := of_decide_eq_true (by first | (with_reducible assumption) | assumption)
  obtain ⟨ad297, A297_0, c297_0, e297, hx297_0, hl297_0, hi297_0⟩ := at_L4 (Kd.S_reads' HO_6.out).2.2 x33_1 p297 q297
  cases e297
  obtain ⟨ce297, hce297, hMe297, hcc297⟩ := Kd.S_get HO_6.out [] x33_1 p297 (by first | exact q297 | exact of_decide_eq_true (by first | (with_reducible assumption) | assumption) | (have e_ := (Kd.S_reads' HO_6.out).1; omega))
  obtain ⟨ve297_0, rfl, ge297_0⟩ := hMe297
  have hv297_0 := hcc297 0 _ rfl
  rw [Nat.add_zero, show ((Kd.slice 71 (Kd.int .u64))).sz = 1 from rfl, Nat.mul_one] at hv297_0
  replace hv297_0 := Option.some.inj (hv297_0.symm.trans hx297_0)
  rw [hv297_0] at ge297_0
  have HL297_0 := Aside0.mk (show Kd.R (Kd.int .u64) 71 _ _ _ _ (rd_L4 x6_1 x33_1) from ge297_0)
  clear hv297_0 ge297_0
  have HX297_0 := Aside0.mk hx297_0
  clear hcc297 hce297
  have HR297_0 := Aside0.mk hi297_0
  have HC297_0 := Aside0.mk hl297_0
  clear hi297_0 hl297_0
  replace p297 := eq_true p297
  replace q297 := eq_true q297
  have p298 : 0 ≤ ((ji13) : Int) := of_decide_eq_true (by first | (with_reducible assumption) | assumption)
  have q298 : (ji13) < ((rd_L4 x6_1 x33_1).length : Int) := of_decide_eq_true (by first | (with_reducible assumption) | assumption)
  obtain ⟨ad298, e298, hx298_0⟩ := Kd.at_int (by repeat (first | (with_reducible exact HR297_0.out) | (with_reducible refine Kd.C_alloc ?_ _) | (with_reducible refine Kd.C_drewN ?_ _) | (with_reducible refine Kd.C_drew ?_) | exact HR297_0.out)) (ji13) p298 q298
  cases e298
  replace p298 := eq_true p298
  replace q298 := eq_true q298
  have p19 : 0 ≤ ((ji13) : Int) := of_decide_eq_true (by first | (with_reducible assumption) | assumption)
  have q19 : ((ji13) : Int) < (((rd_L4 x6_1 x33_1).length : Int) : Int) := of_decide_eq_true (by first | (with_reducible assumption) | assumption)
  obtain ⟨go19, co19, eo19, gb19, gl19, cl19, HG19⟩ := Kd.R_form HL297_0.out (by omega)
  (first | cases eo19 | (injection eo19 with ea_ en_ ec_; (first | subst ea_ | (injection ea_ with ea_; subst ea_)); subst ec_; clear en_))
  have GB19 := Aside0.mk gb19
  have GG19 := Aside0.mk HG19
  clear gb19 gl19 HG19
  (first | simp only [add_plain] at hx298_0 | skip)
  obtain ⟨hx19_0, hf19_0⟩ := Kd.R_celln 0 HL297_0.out ((ji13) : Int) p19 q19
  replace p19 := eq_true p19
  replace q19 := eq_true q19
  have hq20 : (x33_1 : Int) < (x6_1.length : Int) := (by have h_ : (x33_1 : Int) < ((x6_1.length : Int) : Int) := of_decide_eq_true (by first | (with_reducible assumption) | assumption); first | exact h_ | (have e_ := (Kd.S_reads' HO_6.out).1; omega) | simpa only [List.length_set, List.length_set] using h_)
  obtain ⟨oki20, ce20, hcl20, hM20, hcc20, hok20, hbk20⟩ := Kd.S_borrow HO_6.out [] (x33_1 : Int) (of_decide_eq_true (by first | (with_reducible assumption) | assumption)) hq20
  obtain ⟨ve20_0, rfl, ge20_0⟩ := hM20
  have hv20 := hcc20 0 _ rfl
  rw [Nat.add_zero, show ((Kd.slice 71 (Kd.int .u64))).sz = 1 from rfl, Nat.mul_one] at hv20
  replace hv20 := Option.some.inj (hv20.symm.trans HX297_0.out)
  subst hv20
  clear hcc20 hcl20
  replace ge20_0 := (show Kd.R (Kd.int .u64) 71 _ _ _ _ (rd_L4 x6_1 x33_1) from ge20_0)
  have HP20 := Kd.R_putg ge20_0 ((ji13) : Int) (Go.bits .or .u64 (rd (rd_L4 x6_1 x33_1) (ji13)) (ji18))
  go_wp2_with (first | (go_at_call 75; refine (spans_add.calls _ _ _ _ _ go19 ?m1x1 ?m2x1 ?m3x1 ji13 ?m4x1 ji18 _ ?a1x1 ?a2x1 ?a3x1 ?a4x1 ?a5x1 ?a6x1 ?a7x1 ?a8x1 ?a9x1 ?a10x1 ?a11x1).mono ?_; (case a3x1 => first | with_reducible assumption | assumption); (case a9x1 => first | with_reducible assumption | assumption); (case a7x1 => first | with_reducible assumption | assumption); (case a1x1 => first | with_reducible assumption | exact of_eq_true (by with_reducible assumption) | exact of_decide_eq_true (by with_reducible assumption) | with_reducible rfl | assumption | rfl); (case a2x1 => first | with_reducible assumption | exact of_eq_true (by with_reducible assumption) | exact of_decide_eq_true (by with_reducible assumption) | with_reducible rfl | assumption | rfl); (case a4x1 => first | with_reducible assumption | exact of_eq_true (by with_reducible assumption) | exact of_decide_eq_true (by with_reducible assumption) | with_reducible rfl | assumption | rfl); (case a5x1 => first | with_reducible assumption | exact of_eq_true (by with_reducible assumption) | exact of_decide_eq_true (by with_reducible assumption) | with_reducible rfl | assumption | rfl); (case a6x1 => first | with_reducible assumption | exact of_eq_true (by with_reducible assumption) | exact of_decide_eq_true (by with_reducible assumption) | with_reducible rfl | assumption | rfl); (case a8x1 => first | with_reducible assumption | exact of_eq_true (by with_reducible assumption) | exact of_decide_eq_true (by with_reducible assumption) | with_reducible rfl | assumption | rfl); (case a10x1 => first | with_reducible assumption | exact of_eq_true (by with_reducible assumption) | exact of_decide_eq_true (by with_reducible assumption) | with_reducible rfl | assumption | rfl); (case a11x1 => first | with_reducible assumption | exact of_eq_true (by with_reducible assumption) | exact of_decide_eq_true (by with_reducible assumption) | with_reducible rfl | assumption | rfl); rintro e w21 ⟨rfl, hw⟩; have hg : wr.grownBy w21 (some go19) := (by rw [hw]; exact HP20.2); have hz_ : Kd.R (Kd.int .u64) 71 w21 w.heap.size oki20 (.slice (some ⟨go19, 0, none⟩) (rd_L4 x6_1 x33_1).length c297_0) y299 := (by rw [hw, Ny299.out]; exact HP20.1); have hp_ : Kd.S (Kd.slice 71 (Kd.int .u64)) 70 w21 w.heap.size (fun _ => True) (.slice (some ad297) x6_1.length co9) y301 := (by rw [Ny301.out]; exact hbk20 hg (fun k_ e_ => by injection e_ with e_; subst e_; exact ge20_0.1 _ rfl) (Kd.M_row hz_)); have hm_ := Kd.R_mono hz_ hok20; clear HP20 hbk20; have n0_ := Aside0.mk (hp_); have n1_ := Aside0.mk (blk_grown (g := gb293) (o := .cells #[.int .i64 a0_0, .int .i64 a0_1, .slice A0_2 l0_2.length c0_2] 24 (0, 0)) (bK) hg (Kd.R_ne HL297_0.out BK293.out (by decide))); have n2_ := Aside0.mk ((by rw [hw]; exact below_set (HB.out) GB19.out : Below w.heap.size w w21)); have n3_ := Aside0.mk (hm_); have n4_ := Aside0.mk ((Kd.R_reads' hm_).2.1); clear HO_6; clear BK293; clear HB; clear HL297_0; have HO_6 := n0_; have BK293 := n1_; have HB := n2_; have HL377 := n3_; have HC300 := n4_; clear n0_ n1_ n2_ n3_ n4_; clear hg hw hp_ hz_ hm_ hok20))
  (try simp only [← hl6_1])
  (first | go_roundg k1 | ((simp only [add_plain] at *); go_roundg k1))
  case measure => have := HK1.out; omega
  case rel => exact ⟨(y301), (wrap64 (x33_1 + 1)), (by first | rfl | (simp; done) | (simp [*]; done)), H', ⟨by have := HK1.out; omega⟩, ⟨by (try simp only [hl6_1]); (with_reducible repeat (first | apply Kd.S_alloc | apply Kd.S_drewN | apply Kd.S_drew)); exact HO_6.out⟩, ⟨by (try simp only [hl6_1]); (with_reducible repeat (first | refine blk_drewN ?_ _ | refine blk_drew ?_ | refine blk_alloc ?_ _)); exact BK293.out⟩, ⟨bB⟩⟩
 rw [if_neg c8] at H
 have c8b0 : (a0_0 == 2) = false := beq_eq_false_iff_ne.mpr c8
 have c8b1 : (a0_0 != 2) = true := bne_iff_ne.mpr c8
 (first | rw [c8b0] | (simp only [i64_w, i32_w]; rw [c8b0]) | skip)
 by_cases c22 : a0_0 = 3
 ·rw [if_pos c22] at H
  have c22b0 : (a0_0 == 3) = true := beq_iff_eq.mpr c22
  have c22b1 : (a0_0 != 3) = false := bne_eq_false_iff_eq.mpr c22
  clear c22
  have H' := Aside0.mk H
  clear H
  go_wp2
  go_loopg [8] k (fun kq v8 w' => ∃ (x6_1 : List (List Int)) (x8_1 : Int), v8 = .int .i64 x8_1 ∧ Aside0 (expr_match.l1 kq a1 (a1.size : Int) x6_1 x8_1 a0_0 a0_1 l0_2 = some r) ∧ Aside0 (kq ≤ k) ∧ Aside0 (Kd.S (Kd.slice 71 (Kd.int .u64)) 70 w' w.heap.size (fun _ => True) v295 x6_1) ∧ Aside0 (w'.heap[gb293]? = some (.cells #[.int .i64 a0_0, .int .i64 a0_1, (.slice A0_2 l0_2.length c0_2)] 24 (0, 0))) ∧ Aside0 (Below w.heap.size w w'))
  case atStart => exact ⟨(t294), (0), (by first | rfl | (simp; done) | (simp [*]; done)), H', ⟨Nat.le_refl _⟩, ⟨by (with_reducible repeat (first | apply Kd.S_alloc | apply Kd.S_drewN | apply Kd.S_drew)); exact HO296.out⟩, ⟨bK⟩, ⟨bB⟩⟩
  clear H'
  try clear c8
  try clear c8b0
  try clear c8b1
  try clear c22
  try clear c22b0
  try clear c22b1
  try clear hcz7_0
  try clear hcz7_1
  try clear hcz7_2
  try clear hfz7_0
  try clear hfz7_1
  try clear hfz7_2
  obtain ⟨x6_1, x8_1, rfl, HA, HK1, HO_6, BK293, HB⟩ := hrel
  cases gk with
  | zero => exact absurd HA.out (by simp [expr_match.l1])
  | succ k1 => ?_
  have H := HA.out
  clear HA
  simp only [expr_match.l1] at H
  by_cases c23 : x8_1 < (a1.size : Int)
  rotate_left
  ·rw [if_neg c23] at H
   have c23b0 : decide (x8_1 < (a1.size : Int)) = false := decide_eq_false c23
   clear c23
   obtain rfl := Option.some.inj H
   go_wp2
   go_ret
   exact ⟨_, by first | rfl | (simp [errW_none, errW_some] <;> rfl) | (simp [*, errW_none, errW_some] <;> rfl), by (with_reducible repeat (first | apply Kd.S_alloc | apply Kd.S_drewN | apply Kd.S_drew)); exact HO_6.out, bB⟩
  rw [if_pos c23] at H
  have c23b0 : decide (x8_1 < (a1.size : Int)) = true := decide_eq_true c23
  clear c23
  by_cases c24 : 0 ≤ x8_1
  rotate_left
  ·rw [if_neg c24] at H
   exact absurd H (by simp)
  rw [if_pos c24] at H
  have c24b0 : decide (0 ≤ x8_1) = true := decide_eq_true c24
  clear c24
  by_cases c25 : x8_1 < (a1.size : Int)
  rotate_left
  ·rw [if_neg c25] at H
   exact absurd H (by simp)
  rw [if_pos c25] at H
  have c25b0 : decide (x8_1 < (a1.size : Int)) = true := decide_eq_true c25
  clear c25
  by_cases c27 : (((bt a1 x8_1) - 97) % 256) = a0_1
  rotate_left
  ·rw [if_neg c27] at H
   have c27b0 : ((((bt a1 x8_1) - 97) % 256) == a0_1) = false := beq_eq_false_iff_ne.mpr c27
   have c27b9 : (wrap64 (IntKind.u8.wrap (bt a1 x8_1 - 97)) == a0_1) = false := by rw [wrap_u8]; exact c27b0
   have c27b1 : ((((bt a1 x8_1) - 97) % 256) != a0_1) = true := bne_iff_ne.mpr c27
   have H' := Aside0.mk H
   clear H
   try go_wp2
   have n0_ := Aside0.mk (Kd.S_drew HO_6.out)
   have n1_ := Aside0.mk (blk_drew BK293.out)
   have n2_ := Aside0.mk (below_drew1 HB.out)
   clear HO_6
   clear BK293
   clear HB
   have HO_6 := n0_
   have BK293 := n1_
   have HB := n2_
   clear n0_ n1_ n2_
   have p26 : 0 ≤ (x8_1 : Int) := of_decide_eq_true (by first | (with_reducible assumption) | assumption)
   have q26 : x8_1 < (a1.size : Int) := of_decide_eq_true (by first | (with_reducible assumption) | assumption)
   have hx26 := bt_at a1 x8_1
   replace p26 := eq_true p26
   replace q26 := eq_true q26
   refine start_ (n := 8) (S := fun w' => w'.cell? ⟨gb293, 0, none⟩ = some (.int .i64 a0_0) ∧ w'.cell? ⟨gb293, 1, none⟩ = some (.int .i64 a0_1) ∧ w'.cell? ⟨gb293, 2, none⟩ = some (.slice A0_2 l0_2.length c0_2)) (ds := []) #[false, false, false, false, false, false, false, false] (by kernel_rfl) rfl rfl ⟨(blk_cell BK293.out 0).trans rfl, (blk_cell BK293.out 1).trans rfl, (blk_cell BK293.out 2).trans rfl⟩ (fun hHeld => ?_); refine with_tabW expr_match.tab14 expr_match.bits14 (fun HT_ HW_ => ?_)
   generalize wr.drew = w40 at HO_6 BK293 HB hHeld ⊢
   refine pure_ (i := 0) (N := some 48) (v := ?_) (a' := ?_) #[true, false, false, false, false, false, false, false] rfl rfl (any_of HT_.out (by kernel_rfl)) (fun _ _ _ h => h) (Or.inl ⟨by rfl, ?_⟩) ?_ ?_
   rotate_left
   ·intro w'
    go_simp
    with_reducible rfl
   rotate_left
   ·simp only [Act.put, List.setIfInBounds_toArray, List.set_cons_zero, List.set_cons_succ, i64_w, i32_w]
    rfl
   refine pure_ (i := 1) (N := some 49) (v := ?_) (a' := ?_) #[true, true, false, false, false, false, false, false] rfl rfl (any_of HT_.out (by kernel_rfl)) (fun _ _ _ h => h) (Or.inl ⟨by rfl, ?_⟩) ?_ ?_
   rotate_left
   ·intro w'
    go_simp
    with_reducible rfl
   rotate_left
   ·simp only [Act.put, List.setIfInBounds_toArray, List.set_cons_zero, List.set_cons_succ, i64_w, i32_w]
    rfl
   refine pure_ (i := 5) (N := some 53) (v := ?_) (a' := ?_) #[true, true, false, false, false, true, false, false] rfl rfl (any_of HT_.out (by kernel_rfl)) (fun _ _ _ h => h) (Or.inl ⟨by rfl, ?_⟩) ?_ ?_
   rotate_left
   ·intro w'
    go_simp
    with_reducible rfl
   rotate_left
   ·simp only [Act.put, List.setIfInBounds_toArray, List.set_cons_zero, List.set_cons_succ, i64_w, i32_w]
    rfl
   refine take_ (i := 2) (N := some 50) (v := ?_) (a' := ?_) #[true, true, true, false, false, true, false, false] rfl rfl (take_ofW HT_.out HW_.out (by kernel_rfl)) (fun _ _ _ h => h) (Or.inl ⟨by rfl, ?_⟩) hHeld ?_ ?_
   rotate_left
   ·rintro w' ⟨s0, s1, s2⟩
    go_simp
    with_reducible rfl
   rotate_left
   ·simp only [Act.put, List.setIfInBounds_toArray, List.set_cons_zero, List.set_cons_succ, i64_w, i32_w]
    rfl
   refine pure_ (i := 3) (N := some 51) (v := ?_) (a' := ?_) #[true, true, true, true, false, true, false, false] rfl rfl (any_of HT_.out (by kernel_rfl)) (fun _ _ _ h => h) (Or.inl ⟨by rfl, ?_⟩) ?_ ?_
   rotate_left
   ·intro w'
    go_simp
    with_reducible rfl
   rotate_left
   ·simp only [Act.put, List.setIfInBounds_toArray, List.set_cons_zero, List.set_cons_succ, i64_w, i32_w]
    rfl
   refine pure_ (i := 4) (N := some 52) (v := ?_) (a' := ?_) #[true, true, true, true, true, true, false, false] rfl rfl (any_of HT_.out (by kernel_rfl)) (fun _ _ _ h => h) (Or.inl ⟨by rfl, ?_⟩) ?_ ?_
   rotate_left
   ·intro w'
    go_simp
    with_reducible rfl
   rotate_left
   ·simp only [Act.put, List.setIfInBounds_toArray, List.set_cons_zero, List.set_cons_succ, i64_w, i32_w]
    rfl
   refine take_ (i := 6) (N := some 54) (v := ?_) (a' := ?_) #[true, true, true, true, true, true, true, false] rfl rfl (take_ofW HT_.out HW_.out (by kernel_rfl)) (fun _ _ _ h => h) (Or.inl ⟨by rfl, ?_⟩) hHeld ?_ ?_
   rotate_left
   ·rintro w' ⟨s0, s1, s2⟩
    go_simp
    with_reducible rfl
   rotate_left
   ·simp only [Act.put, List.setIfInBounds_toArray, List.set_cons_zero, List.set_cons_succ, i64_w, i32_w]
    rfl
   refine pure_ (i := 7) (N := some 55) (v := ?_) (a' := ?_) #[true, true, true, true, true, true, true, true] rfl rfl (any_of HT_.out (by kernel_rfl)) (fun _ _ _ h => h) (Or.inl ⟨by rfl, ?_⟩) ?_ ?_
   rotate_left
   ·intro w'
    go_simp
    with_reducible rfl
   rotate_left
   ·simp only [Act.put, List.setIfInBounds_toArray, List.set_cons_zero, List.set_cons_succ, i64_w, i32_w]
    rfl
   refine done_ (done_of HT_.out (by kernel_rfl)) ?_
   try go_wp2
   (first | go_roundg k1 | ((simp only [add_plain] at *); go_roundg k1))
   case measure => have := HK1.out; omega
   case rel => exact ⟨(x6_1), (wrap64 (x8_1 + 1)), (by first | rfl | (simp; done) | (simp [*]; done)), H', ⟨by have := HK1.out; omega⟩, ⟨by (with_reducible repeat (first | apply Kd.S_alloc | apply Kd.S_drewN | apply Kd.S_drew)); exact HO_6.out⟩, ⟨bK⟩, ⟨bB⟩⟩
  rw [if_pos c27] at H
  have c27b0 : ((((bt a1 x8_1) - 97) % 256) == a0_1) = true := beq_iff_eq.mpr c27
  have c27b9 : (wrap64 (IntKind.u8.wrap (bt a1 x8_1 - 97)) == a0_1) = true := by rw [wrap_u8]; exact c27b0
  have c27b1 : ((((bt a1 x8_1) - 97) % 256) != a0_1) = false := bne_eq_false_iff_eq.mpr c27
  clear c27
  by_cases c28 : x8_1 < (x6_1.length : Int)
  rotate_left
  ·rw [if_neg c28] at H
   exact absurd H (by simp)
  rw [if_pos c28] at H
  have c28b0 : decide (x8_1 < (x6_1.length : Int)) = true := decide_eq_true c28
  clear c28
  obtain ⟨ji29, hji29⟩ : ∃ j_ : Int, (wrap64 (Int.tdiv (wrap64 (x8_1 + 1)) 64)) = j_ := ⟨_, rfl⟩
  replace H : (if 0 ≤ (ji29) then (if (ji29) < ((rd_L4 x6_1 x8_1).length : Int) then (if 0 ≤ (IntKind.u64.wrap (Int.tmod (wrap64 (x8_1 + 1)) 64)) then (expr_match.l1 k1 a1 (a1.size : Int) (x6_1.set (x8_1 : Int).toNat ((rd_L4 x6_1 x8_1).set ((ji29) : Int).toNat (Go.bits .or .u64 (rd (rd_L4 x6_1 x8_1) (ji29)) (shl .u64 1 (IntKind.u64.wrap (Int.tmod (wrap64 (x8_1 + 1)) 64)))))) (wrap64 (x8_1 + 1)) a0_0 a0_1 l0_2) else (none)) else (none)) else (none)) = some r := by first | (rw [hji29] at H; exact H) | (simp only [hji29] at H ⊢; exact H)
  have hji29w : (IntKind.i64.wrap (Int.tdiv (wrap64 (x8_1 + 1)) 64)) = ji29 := (i64_w _).trans hji29
  by_cases c30 : 0 ≤ (ji29)
  rotate_left
  ·rw [if_neg c30] at H
   exact absurd H (by simp)
  rw [if_pos c30] at H
  have c30b0 : decide (0 ≤ (ji29)) = true := decide_eq_true c30
  clear c30
  by_cases c31 : (ji29) < ((rd_L4 x6_1 x8_1).length : Int)
  rotate_left
  ·rw [if_neg c31] at H
   exact absurd H (by simp)
  rw [if_pos c31] at H
  have c31b0 : decide ((ji29) < ((rd_L4 x6_1 x8_1).length : Int)) = true := decide_eq_true c31
  clear c31
  obtain ⟨ji32, hji32⟩ : ∃ j_ : Int, (IntKind.u64.wrap (Int.tmod (wrap64 (x8_1 + 1)) 64)) = j_ := ⟨_, rfl⟩
  replace H : (if 0 ≤ (ji32) then (expr_match.l1 k1 a1 (a1.size : Int) (x6_1.set (x8_1 : Int).toNat ((rd_L4 x6_1 x8_1).set ((ji29) : Int).toNat (Go.bits .or .u64 (rd (rd_L4 x6_1 x8_1) (ji29)) (shl .u64 1 (ji32))))) (wrap64 (x8_1 + 1)) a0_0 a0_1 l0_2) else (none)) = some r := by first | (rw [hji32] at H; exact H) | (simp only [hji32] at H ⊢; exact H)
  by_cases c33 : 0 ≤ (ji32)
  rotate_left
  ·rw [if_neg c33] at H
   exact absurd H (by simp)
  rw [if_pos c33] at H
  have c33b0 := eq_true c33
  have c33b1 : decide (0 ≤ (ji32)) = true := decide_eq_true c33
  clear c33
  obtain ⟨ji34, hji34⟩ : ∃ j_ : Int, (shl .u64 1 (ji32)) = j_ := ⟨_, rfl⟩
  replace H : (expr_match.l1 k1 a1 (a1.size : Int) (x6_1.set (x8_1 : Int).toNat ((rd_L4 x6_1 x8_1).set ((ji29) : Int).toNat (Go.bits .or .u64 (rd (rd_L4 x6_1 x8_1) (ji29)) (ji34)))) (wrap64 (x8_1 + 1)) a0_0 a0_1 l0_2) = some r := by first | (rw [hji34] at H; exact H) | (simp only [hji34] at H ⊢; exact H)
  have hji34_ : (IntKind.u64.wrap (1 * 2 ^ min (ji32).toNat 64)) = ji34 := hji34
  have hji34z : (ji32) ≤ 64 → (IntKind.u64.wrap (1 * 2 ^ (ji32).toNat)) = ji34 := shl_small hji34
  have hji34u : (IntKind.u64.wrap (2 ^ min (ji32).toNat 64)) = ji34 := by have h_ := hji34_; rw [Int.one_mul] at h_; exact h_
  have hji34v : (ji32) ≤ 64 → (IntKind.u64.wrap (2 ^ (ji32).toNat)) = ji34 := fun hle_ => by have h_ := hji34z hle_; rw [Int.one_mul] at h_; exact h_
  obtain ⟨y304, hy304⟩ : ∃ y_ : List Int, y_ = ((rd_L4 x6_1 x8_1).set ((ji29) : Int).toNat (Go.bits .or .u64 (rd (rd_L4 x6_1 x8_1) (ji29)) (ji34))) := ⟨_, rfl⟩
  replace H : (expr_match.l1 k1 a1 (a1.size : Int) (x6_1.set (x8_1 : Int).toNat y304) (wrap64 (x8_1 + 1)) a0_0 a0_1 l0_2) = some r := by first | (rw [hy304]; with_reducible exact H) | (have H2_ := (Option.bind_some _ _).symm.trans H; rw [hy304]; with_reducible exact H2_) | (have H2_ := (Option.bind_some _ _).symm.trans H; with_reducible exact H2_) | with_reducible exact H | (rw [hy304]; exact H) | exact H
  have Ny304 := Aside0.mk hy304
  clear hy304
  obtain ⟨y306, hy306⟩ : ∃ y_ : List (List Int), y_ = (x6_1.set (x8_1 : Int).toNat y304) := ⟨_, rfl⟩
  replace H : (expr_match.l1 k1 a1 (a1.size : Int) y306 (wrap64 (x8_1 + 1)) a0_0 a0_1 l0_2) = some r := by first | (rw [hy306]; with_reducible exact H) | (have H2_ := (Option.bind_some _ _).symm.trans H; rw [hy306]; with_reducible exact H2_) | (have H2_ := (Option.bind_some _ _).symm.trans H; with_reducible exact H2_) | with_reducible exact H | (rw [hy306]; exact H) | exact H
  have Ny306 := Aside0.mk hy306
  clear hy306
  have H' := Aside0.mk H
  clear H
  try go_wp2
  have n0_ := Aside0.mk (Kd.S_drew HO_6.out)
  have n1_ := Aside0.mk (blk_drew BK293.out)
  have n2_ := Aside0.mk (below_drew1 HB.out)
  clear HO_6
  clear BK293
  clear HB
  have HO_6 := n0_
  have BK293 := n1_
  have HB := n2_
  clear n0_ n1_ n2_
  have p26 : 0 ≤ (x8_1 : Int) := of_decide_eq_true (by first | (with_reducible assumption) | assumption)
  have q26 : x8_1 < (a1.size : Int) := of_decide_eq_true (by first | (with_reducible assumption) | assumption)
  have hx26 := bt_at a1 x8_1
  replace p26 := eq_true p26
  replace q26 := eq_true q26
  refine start_ (n := 8) (S := fun w' => w'.cell? ⟨gb293, 0, none⟩ = some (.int .i64 a0_0) ∧ w'.cell? ⟨gb293, 1, none⟩ = some (.int .i64 a0_1) ∧ w'.cell? ⟨gb293, 2, none⟩ = some (.slice A0_2 l0_2.length c0_2)) (ds := []) #[false, false, false, false, false, false, false, false] (by kernel_rfl) rfl rfl ⟨(blk_cell BK293.out 0).trans rfl, (blk_cell BK293.out 1).trans rfl, (blk_cell BK293.out 2).trans rfl⟩ (fun hHeld => ?_); refine with_tabW expr_match.tab14 expr_match.bits14 (fun HT_ HW_ => ?_)
  generalize wr.drew = w36 at HO_6 BK293 HB hHeld ⊢
  refine pure_ (i := 0) (N := some 48) (v := ?_) (a' := ?_) #[true, false, false, false, false, false, false, false] rfl rfl (any_of HT_.out (by kernel_rfl)) (fun _ _ _ h => h) (Or.inl ⟨by rfl, ?_⟩) ?_ ?_
  rotate_left
  ·intro w'
   go_simp
   with_reducible rfl
  rotate_left
  ·simp only [Act.put, List.setIfInBounds_toArray, List.set_cons_zero, List.set_cons_succ, i64_w, i32_w]
   rfl
  refine pure_ (i := 1) (N := some 49) (v := ?_) (a' := ?_) #[true, true, false, false, false, false, false, false] rfl rfl (any_of HT_.out (by kernel_rfl)) (fun _ _ _ h => h) (Or.inl ⟨by rfl, ?_⟩) ?_ ?_
  rotate_left
  ·intro w'
   go_simp
   with_reducible rfl
  rotate_left
  ·simp only [Act.put, List.setIfInBounds_toArray, List.set_cons_zero, List.set_cons_succ, i64_w, i32_w]
   rfl
  refine pure_ (i := 5) (N := some 53) (v := ?_) (a' := ?_) #[true, true, false, false, false, true, false, false] rfl rfl (any_of HT_.out (by kernel_rfl)) (fun _ _ _ h => h) (Or.inl ⟨by rfl, ?_⟩) ?_ ?_
  rotate_left
  ·intro w'
   go_simp
   with_reducible rfl
  rotate_left
  ·simp only [Act.put, List.setIfInBounds_toArray, List.set_cons_zero, List.set_cons_succ, i64_w, i32_w]
   rfl
  refine take_ (i := 2) (N := some 50) (v := ?_) (a' := ?_) #[true, true, true, false, false, true, false, false] rfl rfl (take_ofW HT_.out HW_.out (by kernel_rfl)) (fun _ _ _ h => h) (Or.inl ⟨by rfl, ?_⟩) hHeld ?_ ?_
  rotate_left
  ·rintro w' ⟨s0, s1, s2⟩
   go_simp
   with_reducible rfl
  rotate_left
  ·simp only [Act.put, List.setIfInBounds_toArray, List.set_cons_zero, List.set_cons_succ, i64_w, i32_w]
   rfl
  refine pure_ (i := 3) (N := some 51) (v := ?_) (a' := ?_) #[true, true, true, true, false, true, false, false] rfl rfl (any_of HT_.out (by kernel_rfl)) (fun _ _ _ h => h) (Or.inl ⟨by rfl, ?_⟩) ?_ ?_
  rotate_left
  ·intro w'
   go_simp
   with_reducible rfl
  rotate_left
  ·simp only [Act.put, List.setIfInBounds_toArray, List.set_cons_zero, List.set_cons_succ, i64_w, i32_w]
   rfl
  refine pure_ (i := 4) (N := some 52) (v := ?_) (a' := ?_) #[true, true, true, true, true, true, false, false] rfl rfl (any_of HT_.out (by kernel_rfl)) (fun _ _ _ h => h) (Or.inl ⟨by rfl, ?_⟩) ?_ ?_
  rotate_left
  ·intro w'
   go_simp
   with_reducible rfl
  rotate_left
  ·simp only [Act.put, List.setIfInBounds_toArray, List.set_cons_zero, List.set_cons_succ, i64_w, i32_w]
   rfl
  refine take_ (i := 6) (N := some 54) (v := ?_) (a' := ?_) #[true, true, true, true, true, true, true, false] rfl rfl (take_ofW HT_.out HW_.out (by kernel_rfl)) (fun _ _ _ h => h) (Or.inl ⟨by rfl, ?_⟩) hHeld ?_ ?_
  rotate_left
  ·rintro w' ⟨s0, s1, s2⟩
   go_simp
   with_reducible rfl
  rotate_left
  ·simp only [Act.put, List.setIfInBounds_toArray, List.set_cons_zero, List.set_cons_succ, i64_w, i32_w]
   rfl
  refine pure_ (i := 7) (N := some 55) (v := ?_) (a' := ?_) #[true, true, true, true, true, true, true, true] rfl rfl (any_of HT_.out (by kernel_rfl)) (fun _ _ _ h => h) (Or.inl ⟨by rfl, ?_⟩) ?_ ?_
  rotate_left
  ·intro w'
   go_simp
   with_reducible rfl
  rotate_left
  ·simp only [Act.put, List.setIfInBounds_toArray, List.set_cons_zero, List.set_cons_succ, i64_w, i32_w]
   rfl
  refine done_ (done_of HT_.out (by kernel_rfl)) ?_
  obtain ⟨Ao37, co37, eo37⟩ := Kd.S_slice HO_6.out
  subst eo37
  have p302 : 0 ≤ (x8_1 : Int) := of_decide_eq_true (by first | (with_reducible assumption) | assumption)
  have q302 : x8_1 < (x6_1.length : Int) := of_decide_eq_true (by first | (with_reducible assumption) | assumption)
  obtain ⟨ad302, A302_0, c302_0, e302, hx302_0, hl302_0, hi302_0⟩ := at_L4 (Kd.S_reads' HO_6.out).2.2 x8_1 p302 q302
  cases e302
  obtain ⟨ce302, hce302, hMe302, hcc302⟩ := Kd.S_get HO_6.out [] x8_1 p302 (by first | exact q302 | exact of_decide_eq_true (by first | (with_reducible assumption) | assumption) | (have e_ := (Kd.S_reads' HO_6.out).1; omega))
  obtain ⟨ve302_0, rfl, ge302_0⟩ := hMe302
  have hv302_0 := hcc302 0 _ rfl
  rw [Nat.add_zero, show ((Kd.slice 71 (Kd.int .u64))).sz = 1 from rfl, Nat.mul_one] at hv302_0
  replace hv302_0 := Option.some.inj (hv302_0.symm.trans hx302_0)
  rw [hv302_0] at ge302_0
  have HL302_0 := Aside0.mk (show Kd.R (Kd.int .u64) 71 _ _ _ _ (rd_L4 x6_1 x8_1) from ge302_0)
  clear hv302_0 ge302_0
  have HX302_0 := Aside0.mk hx302_0
  clear hcc302 hce302
  have HR302_0 := Aside0.mk hi302_0
  have HC302_0 := Aside0.mk hl302_0
  clear hi302_0 hl302_0
  replace p302 := eq_true p302
  replace q302 := eq_true q302
  have p303 : 0 ≤ ((ji29) : Int) := of_decide_eq_true (by first | (with_reducible assumption) | assumption)
  have q303 : (ji29) < ((rd_L4 x6_1 x8_1).length : Int) := of_decide_eq_true (by first | (with_reducible assumption) | assumption)
  obtain ⟨ad303, e303, hx303_0⟩ := Kd.at_int (by repeat (first | (with_reducible exact HR302_0.out) | (with_reducible refine Kd.C_alloc ?_ _) | (with_reducible refine Kd.C_drewN ?_ _) | (with_reducible refine Kd.C_drew ?_) | exact HR302_0.out)) (ji29) p303 q303
  cases e303
  replace p303 := eq_true p303
  replace q303 := eq_true q303
  have p35 : 0 ≤ ((ji29) : Int) := of_decide_eq_true (by first | (with_reducible assumption) | assumption)
  have q35 : ((ji29) : Int) < (((rd_L4 x6_1 x8_1).length : Int) : Int) := of_decide_eq_true (by first | (with_reducible assumption) | assumption)
  obtain ⟨go35, co35, eo35, gb35, gl35, cl35, HG35⟩ := Kd.R_form HL302_0.out (by omega)
  (first | cases eo35 | (injection eo35 with ea_ en_ ec_; (first | subst ea_ | (injection ea_ with ea_; subst ea_)); subst ec_; clear en_))
  have GB35 := Aside0.mk gb35
  have GG35 := Aside0.mk HG35
  clear gb35 gl35 HG35
  (first | simp only [add_plain] at hx303_0 | skip)
  obtain ⟨hx35_0, hf35_0⟩ := Kd.R_celln 0 HL302_0.out ((ji29) : Int) p35 q35
  replace p35 := eq_true p35
  replace q35 := eq_true q35
  have hq38 : (x8_1 : Int) < (x6_1.length : Int) := (by have h_ : (x8_1 : Int) < ((x6_1.length : Int) : Int) := of_decide_eq_true (by first | (with_reducible assumption) | assumption); first | exact h_ | (have e_ := (Kd.S_reads' HO_6.out).1; omega) | simpa only [List.length_set, List.length_set] using h_)
  obtain ⟨oki38, ce38, hcl38, hM38, hcc38, hok38, hbk38⟩ := Kd.S_borrow HO_6.out [] (x8_1 : Int) (of_decide_eq_true (by first | (with_reducible assumption) | assumption)) hq38
  obtain ⟨ve38_0, rfl, ge38_0⟩ := hM38
  have hv38 := hcc38 0 _ rfl
  rw [Nat.add_zero, show ((Kd.slice 71 (Kd.int .u64))).sz = 1 from rfl, Nat.mul_one] at hv38
  replace hv38 := Option.some.inj (hv38.symm.trans HX302_0.out)
  subst hv38
  clear hcc38 hcl38
  replace ge38_0 := (show Kd.R (Kd.int .u64) 71 _ _ _ _ (rd_L4 x6_1 x8_1) from ge38_0)
  have HP38 := Kd.R_putg ge38_0 ((ji29) : Int) (Go.bits .or .u64 (rd (rd_L4 x6_1 x8_1) (ji29)) (ji34))
  try go_wp2_with (first | (go_at_call 75; refine (spans_add.calls _ _ _ _ _ go35 ?m1x2 ?m2x2 ?m3x2 ji29 ?m4x2 ji34 _ ?a1x2 ?a2x2 ?a3x2 ?a4x2 ?a5x2 ?a6x2 ?a7x2 ?a8x2 ?a9x2 ?a10x2 ?a11x2).mono ?_; (case a3x2 => first | with_reducible assumption | assumption); (case a9x2 => first | with_reducible assumption | assumption); (case a7x2 => first | with_reducible assumption | assumption); (case a1x2 => first | with_reducible assumption | exact of_eq_true (by with_reducible assumption) | exact of_decide_eq_true (by with_reducible assumption) | with_reducible rfl | assumption | rfl); (case a2x2 => first | with_reducible assumption | exact of_eq_true (by with_reducible assumption) | exact of_decide_eq_true (by with_reducible assumption) | with_reducible rfl | assumption | rfl); (case a4x2 => first | with_reducible assumption | exact of_eq_true (by with_reducible assumption) | exact of_decide_eq_true (by with_reducible assumption) | with_reducible rfl | assumption | rfl); (case a5x2 => first | with_reducible assumption | exact of_eq_true (by with_reducible assumption) | exact of_decide_eq_true (by with_reducible assumption) | with_reducible rfl | assumption | rfl); (case a6x2 => first | with_reducible assumption | exact of_eq_true (by with_reducible assumption) | exact of_decide_eq_true (by with_reducible assumption) | with_reducible rfl | assumption | rfl); (case a8x2 => first | with_reducible assumption | exact of_eq_true (by with_reducible assumption) | exact of_decide_eq_true (by with_reducible assumption) | with_reducible rfl | assumption | rfl); (case a10x2 => first | with_reducible assumption | exact of_eq_true (by with_reducible assumption) | exact of_decide_eq_true (by with_reducible assumption) | with_reducible rfl | assumption | rfl); (case a11x2 => first | with_reducible assumption | exact of_eq_true (by with_reducible assumption) | exact of_decide_eq_true (by with_reducible assumption) | with_reducible rfl | assumption | rfl); rintro e w39 ⟨rfl, hw⟩; have hg : w36.grownBy w39 (some go35) := (by rw [hw]; exact HP38.2); have hz_ : Kd.R (Kd.int .u64) 71 w39 w.heap.size oki38 (.slice (some ⟨go35, 0, none⟩) (rd_L4 x6_1 x8_1).length c302_0) y304 := (by rw [hw, Ny304.out]; exact HP38.1); have hp_ : Kd.S (Kd.slice 71 (Kd.int .u64)) 70 w39 w.heap.size (fun _ => True) (.slice (some ad302) x6_1.length co37) y306 := (by rw [Ny306.out]; exact hbk38 hg (fun k_ e_ => by injection e_ with e_; subst e_; exact ge38_0.1 _ rfl) (Kd.M_row hz_)); have hm_ := Kd.R_mono hz_ hok38; clear HP38 hbk38; have n0_ := Aside0.mk (hp_); have n1_ := Aside0.mk (blk_grown (g := gb293) (o := .cells #[.int .i64 a0_0, .int .i64 a0_1, .slice A0_2 l0_2.length c0_2] 24 (0, 0)) (bK) hg (Kd.R_ne HL302_0.out BK293.out (by decide))); have n2_ := Aside0.mk ((by rw [hw]; exact below_set (HB.out) GB35.out : Below w.heap.size w w39)); have n3_ := Aside0.mk (hm_); have n4_ := Aside0.mk ((Kd.R_reads' hm_).2.1); clear HO_6; clear BK293; clear HB; clear HL302_0; have HO_6 := n0_; have BK293 := n1_; have HB := n2_; have HL378 := n3_; have HC305 := n4_; clear n0_ n1_ n2_ n3_ n4_; clear hg hw hp_ hz_ hm_ hok38))
  (first | go_roundg k1 | ((simp only [add_plain] at *); go_roundg k1))
  case measure => have := HK1.out; omega
  case rel => exact ⟨(y306), (wrap64 (x8_1 + 1)), (by first | rfl | (simp; done) | (simp [*]; done)), H', ⟨by have := HK1.out; omega⟩, ⟨by (with_reducible repeat (first | apply Kd.S_alloc | apply Kd.S_drewN | apply Kd.S_drew)); exact HO_6.out⟩, ⟨bK⟩, ⟨bB⟩⟩
 rw [if_neg c22] at H
 have c22b0 : (a0_0 == 3) = false := beq_eq_false_iff_ne.mpr c22
 have c22b1 : (a0_0 != 3) = true := bne_iff_ne.mpr c22
 have HC41 := Aside0.mk H
 clear H
 go_upto_if 61 with (fail)
 go_cut [61] (fun v61 wc => ∃ (kq : Nat) (x61_40 : Bool), v61 = .bool x61_40 ∧ Aside0 (expr_match.j2 kq a1 (a1.size : Int) t294 a0_0 x61_40 a0_0 a0_1 l0_2 = some r) ∧ Aside0 (kq ≤ k) ∧ Aside0 (Kd.S (Kd.slice 71 (Kd.int .u64)) 70 wc w.heap.size (fun _ => True) v295 t294) ∧ Aside0 (wc.heap[gb293]? = some (.cells #[.int .i64 a0_0, .int .i64 a0_1, (.slice A0_2 l0_2.length c0_2)] 24 (0, 0))) ∧ Aside0 (Below w.heap.size w wc))
 case first =>
  have H := HC41.out
  clear HC41
  by_cases c42 : a0_0 = 4
  rotate_left
  ·rw [if_neg c42] at H
   have c42b0 : (a0_0 == 4) = false := beq_eq_false_iff_ne.mpr c42
   have c42b1 : (a0_0 != 4) = true := bne_iff_ne.mpr c42
   (first | rw [c42b0] | (simp only [i64_w, i32_w]; rw [c42b0]) | skip)
   have H' := Aside0.mk H
   clear H
   go_wp2
   go_meet
   case rel => exact ⟨_, ((a0_0 == 6)), (by first | rfl | (simp; done) | (simp [*]; done)), H', ⟨by first | omega | exact Nat.le_refl _⟩, ⟨by (with_reducible repeat (first | apply Kd.S_alloc | apply Kd.S_drewN | apply Kd.S_drew)); exact HO296.out⟩, ⟨bK⟩, ⟨bB⟩⟩
  rw [if_pos c42] at H
  have c42b0 : (a0_0 == 4) = true := beq_iff_eq.mpr c42
  have c42b1 : (a0_0 != 4) = false := bne_eq_false_iff_eq.mpr c42
  clear c42
  (first | rw [c42b0] | (simp only [i64_w, i32_w]; rw [c42b0]) | skip)
  have H' := Aside0.mk H
  clear H
  go_wp2
  go_meet
  case rel => exact ⟨_, ((a0_0 == 4)), (by first | rfl | (simp; done) | (simp [*]; done)), H', ⟨by first | omega | exact Nat.le_refl _⟩, ⟨by (with_reducible repeat (first | apply Kd.S_alloc | apply Kd.S_drewN | apply Kd.S_drew)); exact HO296.out⟩, ⟨bK⟩, ⟨bB⟩⟩
 clear HC41
 try clear c8
 try clear c8b0
 try clear c8b1
 try clear c22
 try clear c22b0
 try clear c22b1
 try clear hcz7_0
 try clear hcz7_1
 try clear hcz7_2
 try clear hfz7_0
 try clear hfz7_1
 try clear hfz7_2
 obtain ⟨kq, x61_40, rfl, HA, HJ40, HO_6, BK293, HB⟩ := hcut
 cases kq with
 | zero => exact absurd HA.out (by simp [expr_match.j2])
 | succ kj40 => ?_
 have H := HA.out
 clear HA
 simp only [expr_match.j2] at H
 by_cases c43 : x61_40 = true
 ·subst c43
  have H1 : (expr_match.l2 kj40 a1 t294 l0_2 (l0_2.length : Int) 0 a0_0 a0_1 l0_2) = some r := by rw [if_pos rfl] at H; exact H
  clear H
  have H := H1
  clear H1
  have H' := Aside0.mk H
  clear H
  have hcz44_0 : wc.cell? ⟨gb293, 0, none⟩ = some (.int .i64 a0_0) := (blk_cell BK293.out 0).trans rfl
  have hcz44_1 : wc.cell? ⟨gb293, 1, none⟩ = some (.int .i64 a0_1) := (blk_cell BK293.out 1).trans rfl
  have hcz44_2 : wc.cell? ⟨gb293, 2, none⟩ = some (.slice A0_2 l0_2.length c0_2) := (blk_cell BK293.out 2).trans rfl
  have hfz44_0 := blk_frozen BK293.out 0
  have hfz44_1 := blk_frozen BK293.out 1
  have hfz44_2 := blk_frozen BK293.out 2
  go_wp2
  go_loopg [67] kj40 (fun kq v67 w' => ∃ (x6_2 : List (List Int)) (x67_2 : Int), v67 = .int .i64 x67_2 ∧ Aside0 (expr_match.l2 kq a1 x6_2 l0_2 (l0_2.length : Int) x67_2 a0_0 a0_1 l0_2 = some r) ∧ Aside0 (kq ≤ kj40) ∧ Aside0 (Kd.S (Kd.slice 71 (Kd.int .u64)) 70 w' w.heap.size (fun _ => True) v295 x6_2) ∧ Aside0 (w'.heap[gb293]? = some (.cells #[.int .i64 a0_0, .int .i64 a0_1, (.slice A0_2 l0_2.length c0_2)] 24 (0, 0))) ∧ Aside0 (Below w.heap.size w w'))
  case atStart => exact ⟨(t294), (0), (by first | rfl | (simp; done) | (simp [*]; done)), H', ⟨Nat.le_refl _⟩, ⟨by (with_reducible repeat (first | apply Kd.S_alloc | apply Kd.S_drewN | apply Kd.S_drew)); exact HO_6.out⟩, ⟨bK⟩, ⟨bB⟩⟩
  clear H'
  try clear c8
  try clear c8b0
  try clear c8b1
  try clear c22
  try clear c22b0
  try clear c22b1
  try clear c43
  try clear hcz44_0
  try clear hcz44_1
  try clear hcz44_2
  try clear hcz7_0
  try clear hcz7_1
  try clear hcz7_2
  try clear hfz44_0
  try clear hfz44_1
  try clear hfz44_2
  try clear hfz7_0
  try clear hfz7_1
  try clear hfz7_2
  obtain ⟨x6_2, x67_2, rfl, HA, HK2, HO_6, BK293, HB⟩ := hrel
  cases gk with
  | zero => exact absurd HA.out (by simp [expr_match.l2])
  | succ k2 => ?_
  have H := HA.out
  clear HA
  simp only [expr_match.l2] at H
  by_cases c45 : x67_2 < (l0_2.length : Int)
  rotate_left
  ·rw [if_neg c45] at H
   have c45b0 : decide (x67_2 < (l0_2.length : Int)) = false := decide_eq_false c45
   clear c45
   obtain rfl := Option.some.inj H
   go_wp2
   go_ret
   exact ⟨_, by first | rfl | (simp [errW_none, errW_some] <;> rfl) | (simp [*, errW_none, errW_some] <;> rfl), by (with_reducible repeat (first | apply Kd.S_alloc | apply Kd.S_drewN | apply Kd.S_drew)); exact HO_6.out, bB⟩
  rw [if_pos c45] at H
  have c45b0 : decide (x67_2 < (l0_2.length : Int)) = true := decide_eq_true c45
  clear c45
  by_cases c46 : 0 ≤ x67_2
  rotate_left
  ·rw [if_neg c46] at H
   exact absurd H (by simp)
  rw [if_pos c46] at H
  have c46b0 : decide (0 ≤ x67_2) = true := decide_eq_true c46
  clear c46
  by_cases c47 : x67_2 < (l0_2.length : Int)
  rotate_left
  ·rw [if_neg c47] at H
   exact absurd H (by simp)
  rw [if_pos c47] at H
  have c47b0 : decide (x67_2 < (l0_2.length : Int)) = true := decide_eq_true c47
  clear c47
  replace H := Option.bind_eq_some_iff.mp H
  obtain ⟨t309, A480, H⟩ := H
  replace H : (expr_match.l3 k2 a1 x6_2 x67_2 t309 l0_2 (l0_2.length : Int) x67_2 (x6_2.length : Int) 0 a0_0 a0_1 l0_2) = some r := H
  have A48 := Aside0.mk A480
  clear A480
  have H' := Aside0.mk H
  clear H
  have p307 : 0 ≤ (x67_2 : Int) := of_decide_eq_true (by first | (with_reducible assumption) | assumption)
  have q307 : x67_2 < (l0_2.length : Int) := of_decide_eq_true (by first | (with_reducible assumption) | assumption)
  obtain ⟨ad307, A307_2, c307_2, e307, hx307_0, hx307_1, hx307_2, hl307_2, hi307_2⟩ := at_T24 HR0_2.out x67_2 p307 q307
  cases e307
  replace hx307_0 := (HB.out.cell (World.block_lt_of_cell? w _ hx307_0)).trans hx307_0
  replace hx307_1 := (HB.out.cell (World.block_lt_of_cell? w _ hx307_1)).trans hx307_1
  replace hx307_2 := (HB.out.cell (World.block_lt_of_cell? w _ hx307_2)).trans hx307_2
  have HR307_2 := Aside0.mk hi307_2
  have HC307_2 := Aside0.mk hl307_2
  clear hi307_2 hl307_2
  replace p307 := eq_true p307
  replace q307 := eq_true q307
  go_wp2_with (first | ((with_reducible refine gate_dst (N := 10) rfl ?_); refine box_event ?hg (N := 10) ?hd (cs := #[.int .i64 0, .int .i64 0, .slice none 0 0]) (t := 24) ?hr ?_; (case hd => rfl); (case hg => rfl); (case hr => first | (go_simp; done) | (go_simp; rfl)); intro gb308 hg w49 hbox hb; have n0_ := Aside0.mk (Kd.S_below (by (with_reducible repeat (first | apply Kd.S_alloc | apply Kd.S_drewN | apply Kd.S_drew)); exact HO_6.out) hb); have n1_ := Aside0.mk (blk_below (g := gb293) (o := .cells #[.int .i64 a0_0, .int .i64 a0_1, .slice (some ad307) l0_2.length c0_2] 24 (0, 0)) (bK) hb); have n2_ := Aside0.mk (below_step (bB) hb); have n3_ := Aside0.mk (hbox); have n4_ := Aside0.mk ((by rw [hg]; exact (below_size (bB)) : w.heap.size ≤ gb308)); have n5_ := Aside0.mk ((by rw [hg]; exact (below_size (bB)) : w.heap.size ≤ gb308)); have n6_ := Aside0.mk ((by rw [hg]; exact Nat.ne_of_lt (blk_lt (g := gb293) (o := .cells #[.int .i64 a0_0, .int .i64 a0_1, .slice (some ad307) l0_2.length c0_2] 24 (0, 0)) (bK)) : gb293 ≠ gb308)); have n7_ := Aside0.mk ((by rw [hg]; exact Nat.ne_of_gt (blk_lt (g := gb293) (o := .cells #[.int .i64 a0_0, .int .i64 a0_1, .slice (some ad307) l0_2.length c0_2] 24 (0, 0)) (bK)) : gb308 ≠ gb293)); clear HO_6; clear BK293; clear HB; have HO_6 := n0_; have BK293 := n1_; have HB := n2_; have BK308 := n3_; have GW308 := n4_; have GE308 := n5_; have NB293_308 := n6_; have NB308_293 := n7_; clear n0_ n1_ n2_ n3_ n4_ n5_ n6_ n7_; clear hb hbox hg; have hnb50 := NB308_293.out; have hnc50 := NB293_308.out; have hcz51_0 : w49.cell? ⟨gb308, 0, none⟩ = some (.int .i64 0) := (blk_cell BK308.out 0).trans rfl; have hcz51_1 : w49.cell? ⟨gb308, 1, none⟩ = some (.int .i64 0) := (blk_cell BK308.out 1).trans rfl; have hcz51_2 : w49.cell? ⟨gb308, 2, none⟩ = some (.slice none 0 0) := (blk_cell BK308.out 2).trans rfl; have hfz51_0 := blk_frozen BK308.out 0; have hfz51_1 := blk_frozen BK308.out 1; have hfz51_2 := blk_frozen BK308.out 2) | ((with_reducible refine gate_callee (f := 60) rfl ?_); (fail_if_success (have chk_ := HO311)); refine goesL_ (some 74) rfl rfl Try.func60 (by kernel_rfl) rfl #[.agg #[.int .i64 ((rd_T24 l0_2 x67_2).f0), .int .i64 ((rd_T24 l0_2 x67_2).f1), .slice A307_2 ((rd_T24 l0_2 x67_2).f2).length c307_2], .string a1] rfl (by (try simp only [List.map_toArray, List.map_cons, List.map_nil]); first | done | rfl | (simp only [List.length_drop, List.length_take]; rfl) | (simp only [Int.ofNat_lt, Int.ofNat_le]; rfl)) ?_; (with_reducible refine (ih k2 (by have := HJ40.out; have := HK2.out; omega) ((rd_T24 l0_2 x67_2).f0) ((rd_T24 l0_2 x67_2).f1) _ _ ((rd_T24 l0_2 x67_2).f2) a1 t309 _ ?side1 ?side2 A48.out).mono ?_); (case side1 => exact Kd.C_below HR307_2.out (bB)); (case side2 => exact HC307_2.out); rintro e w52 ⟨v310, rfl, ho0, hb⟩; refine ⟨_, rfl, ?_⟩; obtain ⟨hs379, hs379q⟩ := FootX.size_of hb; have HQhs379 := Aside0.mk hs379q; clear hs379q; have n0_ := Aside0.mk (Kd.S_elder' (FootX.S_lt (by (with_reducible repeat (first | apply Kd.S_alloc | apply Kd.S_drewN | apply Kd.S_drew)); exact (Kd.S_mono (Kd.S_far (p := ⟨gb308, 2, none⟩) (Kd.S_far (p := ⟨gb308, 1, none⟩) (Kd.S_far (p := ⟨gb308, 0, none⟩) (Kd.S_types HO_6.out BK308.out (by decide)) (fun _ hk => hk.2) (.int .i64 ((rd_T24 l0_2 x67_2).f0))) (fun _ hk => hk.2) (.int .i64 ((rd_T24 l0_2 x67_2).f1))) (fun _ hk => hk.2) (.slice A307_2 ((rd_T24 l0_2 x67_2).f2).length c307_2)) (fun _ h_ => h_.1))) HQhs379.out) (Kd.S_base ho0) hb); have n1_ := Aside0.mk (Kd.S_lower (Kd.S_new' (FootX.S_ge ho0 HQhs379.out) (Kd.S_lt (by (with_reducible repeat (first | apply Kd.S_alloc | apply Kd.S_drewN | apply Kd.S_drew)); exact (Kd.S_mono (Kd.S_far (p := ⟨gb308, 2, none⟩) (Kd.S_far (p := ⟨gb308, 1, none⟩) (Kd.S_far (p := ⟨gb308, 0, none⟩) (Kd.S_types HO_6.out BK308.out (by decide)) (fun _ hk => hk.2) (.int .i64 ((rd_T24 l0_2 x67_2).f0))) (fun _ hk => hk.2) (.int .i64 ((rd_T24 l0_2 x67_2).f1))) (fun _ hk => hk.2) (.slice A307_2 ((rd_T24 l0_2 x67_2).f2).length c307_2)) (fun _ h_ => h_.1))))) (below_size (bB))); have n2_ := Aside0.mk (blk_below (g := gb293) (o := .cells #[.int .i64 a0_0, .int .i64 a0_1, .slice (some ad307) l0_2.length c0_2] 24 (0, 0)) (by (with_reducible repeat (first | refine blk_drewN ?_ _ | refine blk_drew ?_ | refine blk_alloc ?_ _)); refine blk_far ?_ NB293_308.out _; (with_reducible repeat (first | refine blk_drewN ?_ _ | refine blk_drew ?_ | refine blk_alloc ?_ _)); refine blk_far ?_ NB293_308.out _; (with_reducible repeat (first | refine blk_drewN ?_ _ | refine blk_drew ?_ | refine blk_alloc ?_ _)); refine blk_far ?_ NB293_308.out _; (with_reducible repeat (first | refine blk_drewN ?_ _ | refine blk_drew ?_ | refine blk_alloc ?_ _)); exact BK293.out) hb); have n3_ := Aside0.mk (blk_below (g := gb308) (o := .cells #[.int .i64 ((rd_T24 l0_2 x67_2).f0), .int .i64 ((rd_T24 l0_2 x67_2).f1), .slice A307_2 ((rd_T24 l0_2 x67_2).f2).length c307_2] 24 (0, 0)) (by (with_reducible repeat (first | refine blk_drewN ?_ _ | refine blk_drew ?_ | refine blk_alloc ?_ _)); refine blk_put (cs := #[.int .i64 ((rd_T24 l0_2 x67_2).f0), .int .i64 ((rd_T24 l0_2 x67_2).f1), .slice none 0 0]) ?_ 2 _ rfl; (with_reducible repeat (first | refine blk_drewN ?_ _ | refine blk_drew ?_ | refine blk_alloc ?_ _)); refine blk_put (cs := #[.int .i64 ((rd_T24 l0_2 x67_2).f0), .int .i64 0, .slice none 0 0]) ?_ 1 _ rfl; (with_reducible repeat (first | refine blk_drewN ?_ _ | refine blk_drew ?_ | refine blk_alloc ?_ _)); refine blk_put (cs := #[.int .i64 0, .int .i64 0, .slice none 0 0]) ?_ 0 _ rfl; (with_reducible repeat (first | refine blk_drewN ?_ _ | refine blk_drew ?_ | refine blk_alloc ?_ _)); exact BK308.out) hb); have n4_ := Aside0.mk (below_step (bB) hb); clear HO_6; clear BK293; clear BK308; clear HB; have HO_6 := n0_; have HO311 := n1_; have BK293 := n2_; have BK308 := n3_; have HB := n4_; clear n0_ n1_ n2_ n3_ n4_; (try clear hb); (try clear hb2); (try clear hk); (try clear hi); (try clear ho0); obtain ⟨Ao53, co53, eo53⟩ := Kd.S_slice HO_6.out; subst eo53))
  go_loopg [77] k2 (fun kq v77 w' => ∃ (x6_3 : List (List Int)) (x77_3 : Int), v77 = .int .i64 x77_3 ∧ Aside0 (expr_match.l3 kq a1 x6_3 x67_2 t309 l0_2 (l0_2.length : Int) x67_2 (x6_2.length : Int) x77_3 a0_0 a0_1 l0_2 = some r) ∧ Aside0 (kq ≤ k2) ∧ Aside0 (Kd.S (Kd.slice 71 (Kd.int .u64)) 70 w' w.heap.size (fun k_ => some k_ ≠ (v310 : Value).ownBlock ∧ k_ < hs379) (.slice Ao53 x6_2.length co53) x6_3) ∧ Aside0 (Kd.S (Kd.slice 71 (Kd.int .u64)) 70 w' w.heap.size (fun k_ => some k_ ≠ ((.slice Ao53 x6_2.length co53) : Value).ownBlock ∧ hs379 ≤ k_) v310 t309) ∧ Aside0 (w'.heap[gb293]? = some (.cells #[.int .i64 a0_0, .int .i64 a0_1, (.slice (some ad307) l0_2.length c0_2)] 24 (0, 0))) ∧ Aside0 (w'.heap[gb308]? = some (.cells #[.int .i64 ((rd_T24 l0_2 x67_2).f0), .int .i64 ((rd_T24 l0_2 x67_2).f1), (.slice A307_2 ((rd_T24 l0_2 x67_2).f2).length c307_2)] 24 (0, 0))) ∧ Aside0 (Below w.heap.size w w'))
  case atStart => exact ⟨(x6_2), (0), (by first | rfl | (simp; done) | (simp [*]; done)), H', ⟨Nat.le_refl _⟩, ⟨by (with_reducible repeat (first | apply Kd.S_alloc | apply Kd.S_drewN | apply Kd.S_drew)); exact Kd.S_mono HO_6.out (fun _ hk => ⟨hk.2, hk.1.2⟩)⟩, ⟨by (with_reducible repeat (first | apply Kd.S_alloc | apply Kd.S_drewN | apply Kd.S_drew)); exact Kd.S_mono HO311.out (fun _ hk => ⟨hk.2, hk.1⟩)⟩, ⟨bK⟩, ⟨bK⟩, ⟨bB⟩⟩
  clear H'
  try clear c8
  try clear c8b0
  try clear c8b1
  try clear c22
  try clear c22b0
  try clear c22b1
  try clear c43
  try clear c45
  try clear c45b0
  try clear c46
  try clear c46b0
  try clear c47
  try clear c47b0
  try clear hcz44_0
  try clear hcz44_1
  try clear hcz44_2
  try clear hcz51_0
  try clear hcz51_1
  try clear hcz51_2
  try clear hcz7_0
  try clear hcz7_1
  try clear hcz7_2
  try clear hfz44_0
  try clear hfz44_1
  try clear hfz44_2
  try clear hfz51_0
  try clear hfz51_1
  try clear hfz51_2
  try clear hfz7_0
  try clear hfz7_1
  try clear hfz7_2
  try clear hx307_0
  try clear hx307_1
  try clear hx307_2
  try clear p307
  try clear q307
  obtain ⟨x6_3, x77_3, rfl, HA, HK3, HO_6, HO_11, BK293, BK308, HB⟩ := hrel
  have hl6_3 := (Kd.S_reads' HO_6.out).1
  rw [hl6_3] at HO_6
  (try simp only [hl6_3])
  (try simp only [hl6_3] at BK293)
  (try simp only [hl6_3] at BK308)
  (try simp only [hl6_3] at HO_11)
  cases gk with
  | zero => exact absurd HA.out (by simp [expr_match.l3])
  | succ k3 => ?_
  have H := HA.out
  clear HA
  simp only [expr_match.l3] at H
  by_cases c54 : x77_3 < (x6_2.length : Int)
  rotate_left
  ·rw [if_neg c54] at H
   have c54b0 : decide (x77_3 < (x6_2.length : Int)) = false := decide_eq_false c54
   (try (have c54b0h := c54b0; simp only [hl6_3] at c54b0h))
   clear c54
   have H' := Aside0.mk H
   clear H
   go_wp2
   (try simp only [← hl6_3])
   (first | go_roundg k3 | ((simp only [add_plain] at *); go_roundg k3))
   case measure => have := HJ40.out; have := HK2.out; have := HK3.out; omega
   case rel => exact ⟨(x6_3), (wrap64 (x67_2 + 1)), (by first | rfl | (simp; done) | (simp [*]; done)), H', ⟨by have := HJ40.out; have := HK2.out; have := HK3.out; omega⟩, ⟨by (try simp only [hl6_3]); (with_reducible repeat (first | apply Kd.S_alloc | apply Kd.S_drewN | apply Kd.S_drew)); exact Kd.S_mono HO_6.out (fun _ hk => trivial)⟩, ⟨by (try simp only [hl6_3]); (with_reducible repeat (first | refine blk_drewN ?_ _ | refine blk_drew ?_ | refine blk_alloc ?_ _)); exact BK293.out⟩, ⟨bB⟩⟩
  rw [if_pos c54] at H
  have c54b0 : decide (x77_3 < (x6_2.length : Int)) = true := decide_eq_true c54
  (try (have c54b0h := c54b0; simp only [hl6_3] at c54b0h))
  clear c54
  by_cases c55 : 0 ≤ x77_3
  rotate_left
  ·rw [if_neg c55] at H
   exact absurd H (by simp)
  rw [if_pos c55] at H
  have c55b0 : decide (0 ≤ x77_3) = true := decide_eq_true c55
  clear c55
  by_cases c56 : x77_3 < (x6_3.length : Int)
  rotate_left
  ·rw [if_neg c56] at H
   exact absurd H (by simp)
  rw [if_pos c56] at H
  have c56b0 : decide (x77_3 < (x6_3.length : Int)) = true := decide_eq_true c56
  (try (have c56b0h := c56b0; simp only [hl6_3] at c56b0h))
  clear c56
  have H' := Aside0.mk H
  clear H
  have p312 : 0 ≤ (x77_3 : Int) := of_decide_eq_true (by first | (with_reducible assumption) | assumption)
  have q312 : x77_3 < (x6_3.length : Int) := of_decide_eq_true (by first | (with_reducible assumption) | assumption)
  obtain ⟨ad312, A312_0, c312_0, e312, hx312_0, hl312_0, hi312_0⟩ := at_L4 (Kd.S_reads' HO_6.out).2.2 x77_3 p312 q312
  cases e312
  obtain ⟨ce312, hce312, hMe312, hcc312⟩ := Kd.S_get HO_6.out [] x77_3 p312 (by first | exact q312 | exact of_decide_eq_true (by first | (with_reducible assumption) | assumption) | (have e_ := (Kd.S_reads' HO_6.out).1; omega))
  obtain ⟨ve312_0, rfl, ge312_0⟩ := hMe312
  have hv312_0 := hcc312 0 _ rfl
  rw [Nat.add_zero, show ((Kd.slice 71 (Kd.int .u64))).sz = 1 from rfl, Nat.mul_one] at hv312_0
  replace hv312_0 := Option.some.inj (hv312_0.symm.trans hx312_0)
  rw [hv312_0] at ge312_0
  have HL312_0 := Aside0.mk (show Kd.R (Kd.int .u64) 71 _ _ _ _ (rd_L4 x6_3 x77_3) from ge312_0)
  clear hv312_0 ge312_0
  have HX312_0 := Aside0.mk hx312_0
  clear hcc312 hce312
  have HR312_0 := Aside0.mk hi312_0
  have HC312_0 := Aside0.mk hl312_0
  clear hi312_0 hl312_0
  replace p312 := eq_true p312
  replace q312 := eq_true q312
  go_wp2
  go_loopg [85] k3 (fun kq v85 w' => ∃ (x6_4 : List (List Int)) (x85_4 : Int), v85 = .int .i64 x85_4 ∧ Aside0 (expr_match.l4 kq a1 x6_4 x67_2 t309 x77_3 l0_2 (l0_2.length : Int) x67_2 (x6_2.length : Int) x77_3 ((rd_L4 x6_3 x77_3).length : Int) x85_4 a0_0 a0_1 l0_2 = some r) ∧ Aside0 (kq ≤ k3) ∧ Aside0 (Kd.S (Kd.slice 71 (Kd.int .u64)) 70 w' w.heap.size (fun k_ => some k_ ≠ (v310 : Value).ownBlock ∧ k_ < hs379) (.slice (some ad312) x6_3.length co53) x6_4) ∧ Aside0 (Kd.S (Kd.slice 71 (Kd.int .u64)) 70 w' w.heap.size (fun k_ => some k_ ≠ ((.slice (some ad312) x6_3.length co53) : Value).ownBlock ∧ hs379 ≤ k_) v310 t309) ∧ Aside0 (w'.heap[gb293]? = some (.cells #[.int .i64 a0_0, .int .i64 a0_1, (.slice (some ad307) l0_2.length c0_2)] 24 (0, 0))) ∧ Aside0 (w'.heap[gb308]? = some (.cells #[.int .i64 ((rd_T24 l0_2 x67_2).f0), .int .i64 ((rd_T24 l0_2 x67_2).f1), (.slice A307_2 ((rd_T24 l0_2 x67_2).f2).length c307_2)] 24 (0, 0))) ∧ Aside0 (Below w.heap.size w w'))
  case atStart => exact ⟨(x6_3), (0), (by first | rfl | (simp; done) | (simp [*]; done)), H', ⟨Nat.le_refl _⟩, ⟨by (try simp only [hl6_3]); (with_reducible repeat (first | apply Kd.S_alloc | apply Kd.S_drewN | apply Kd.S_drew)); exact HO_6.out⟩, ⟨by (try simp only [hl6_3]); (with_reducible repeat (first | apply Kd.S_alloc | apply Kd.S_drewN | apply Kd.S_drew)); exact HO_11.out⟩, ⟨by (try simp only [hl6_3]); (with_reducible repeat (first | refine blk_drewN ?_ _ | refine blk_drew ?_ | refine blk_alloc ?_ _)); exact BK293.out⟩, ⟨by (try simp only [hl6_3]); (with_reducible repeat (first | refine blk_drewN ?_ _ | refine blk_drew ?_ | refine blk_alloc ?_ _)); exact BK308.out⟩, ⟨bB⟩⟩
  clear H'
  try clear c8
  try clear c8b0
  try clear c8b1
  try clear c22
  try clear c22b0
  try clear c22b1
  try clear c43
  try clear c45
  try clear c45b0
  try clear c46
  try clear c46b0
  try clear c47
  try clear c47b0
  try clear c54
  try clear c54b0
  try clear c55
  try clear c55b0
  try clear c56
  try clear c56b0
  try clear hcz44_0
  try clear hcz44_1
  try clear hcz44_2
  try clear hcz51_0
  try clear hcz51_1
  try clear hcz51_2
  try clear hcz7_0
  try clear hcz7_1
  try clear hcz7_2
  try clear hfz44_0
  try clear hfz44_1
  try clear hfz44_2
  try clear hfz51_0
  try clear hfz51_1
  try clear hfz51_2
  try clear hfz7_0
  try clear hfz7_1
  try clear hfz7_2
  try clear hx307_0
  try clear hx307_1
  try clear hx307_2
  try clear hx312_0
  try clear p307
  try clear p312
  try clear q307
  try clear q312
  obtain ⟨x6_4, x85_4, rfl, HA, HK4, HO_6, HO_11, BK293, BK308, HB⟩ := hrel
  have hl6_4 := (Kd.S_reads' HO_6.out).1
  rw [hl6_4] at HO_6
  (try simp only [hl6_4])
  (try simp only [hl6_4] at BK293)
  (try simp only [hl6_4] at BK308)
  (try simp only [hl6_4] at HO_11)
  cases gk with
  | zero => exact absurd HA.out (by simp [expr_match.l4])
  | succ k4 => ?_
  have H := HA.out
  clear HA
  simp only [expr_match.l4] at H
  by_cases c57 : x85_4 < ((rd_L4 x6_3 x77_3).length : Int)
  rotate_left
  ·rw [if_neg c57] at H
   have c57b0 : decide (x85_4 < ((rd_L4 x6_3 x77_3).length : Int)) = false := decide_eq_false c57
   (try (have c57b0h := c57b0; simp only [hl6_3, hl6_4] at c57b0h))
   clear c57
   have H' := Aside0.mk H
   clear H
   go_wp2
   (try simp only [← hl6_3, ← hl6_4])
   (first | go_roundg k4 | ((simp only [add_plain] at *); go_roundg k4))
   case measure => have := HJ40.out; have := HK2.out; have := HK3.out; have := HK4.out; omega
   case rel => exact ⟨(x6_4), (wrap64 (x77_3 + 1)), (by first | rfl | (simp; done) | (simp [*]; done)), H', ⟨by have := HJ40.out; have := HK2.out; have := HK3.out; have := HK4.out; omega⟩, ⟨by (try simp only [hl6_3]); (try simp only [hl6_4]); (with_reducible repeat (first | apply Kd.S_alloc | apply Kd.S_drewN | apply Kd.S_drew)); exact HO_6.out⟩, ⟨by (try simp only [hl6_3]); (try simp only [hl6_4]); (with_reducible repeat (first | apply Kd.S_alloc | apply Kd.S_drewN | apply Kd.S_drew)); exact HO_11.out⟩, ⟨by (try simp only [hl6_3]); (try simp only [hl6_4]); (with_reducible repeat (first | refine blk_drewN ?_ _ | refine blk_drew ?_ | refine blk_alloc ?_ _)); exact BK293.out⟩, ⟨by (try simp only [hl6_3]); (try simp only [hl6_4]); (with_reducible repeat (first | refine blk_drewN ?_ _ | refine blk_drew ?_ | refine blk_alloc ?_ _)); exact BK308.out⟩, ⟨bB⟩⟩
  rw [if_pos c57] at H
  have c57b0 : decide (x85_4 < ((rd_L4 x6_3 x77_3).length : Int)) = true := decide_eq_true c57
  (try (have c57b0h := c57b0; simp only [hl6_3, hl6_4] at c57b0h))
  clear c57
  by_cases c58 : x67_2 = 0
  ·rw [if_pos c58] at H
   have c58b0 : (x67_2 == 0) = true := beq_iff_eq.mpr c58
   have c58b1 : (x67_2 != 0) = false := bne_eq_false_iff_eq.mpr c58
   clear c58
   by_cases c59 : 0 ≤ x77_3
   rotate_left
   ·rw [if_neg c59] at H
    exact absurd H (by simp)
   rw [if_pos c59] at H
   have c59b0 : decide (0 ≤ x77_3) = true := decide_eq_true c59
   clear c59
   by_cases c60 : x77_3 < (x6_4.length : Int)
   rotate_left
   ·rw [if_neg c60] at H
    exact absurd H (by simp)
   rw [if_pos c60] at H
   have c60b0 : decide (x77_3 < (x6_4.length : Int)) = true := decide_eq_true c60
   (try (have c60b0h := c60b0; simp only [hl6_3, hl6_4] at c60b0h))
   clear c60
   by_cases c61 : x77_3 < (t309.length : Int)
   rotate_left
   ·rw [if_neg c61] at H
    exact absurd H (by simp)
   rw [if_pos c61] at H
   have c61b0 : decide (x77_3 < (t309.length : Int)) = true := decide_eq_true c61
   (try (have c61b0h := c61b0; simp only [hl6_3, hl6_4] at c61b0h))
   clear c61
   by_cases c62 : 0 ≤ x85_4
   rotate_left
   ·rw [if_neg c62] at H
    exact absurd H (by simp)
   rw [if_pos c62] at H
   have c62b0 : decide (0 ≤ x85_4) = true := decide_eq_true c62
   clear c62
   by_cases c63 : x85_4 < ((rd_L4 t309 x77_3).length : Int)
   rotate_left
   ·rw [if_neg c63] at H
    exact absurd H (by simp)
   rw [if_pos c63] at H
   have c63b0 : decide (x85_4 < ((rd_L4 t309 x77_3).length : Int)) = true := decide_eq_true c63
   (try (have c63b0h := c63b0; simp only [hl6_3, hl6_4] at c63b0h))
   clear c63
   by_cases c64 : x85_4 < ((rd_L4 x6_4 x77_3).length : Int)
   rotate_left
   ·rw [if_neg c64] at H
    exact absurd H (by simp)
   rw [if_pos c64] at H
   have c64b0 : decide (x85_4 < ((rd_L4 x6_4 x77_3).length : Int)) = true := decide_eq_true c64
   (try (have c64b0h := c64b0; simp only [hl6_3, hl6_4] at c64b0h))
   clear c64
   obtain ⟨y316, hy316⟩ : ∃ y_ : List Int, y_ = ((rd_L4 x6_4 x77_3).set (x85_4 : Int).toNat (rd (rd_L4 t309 x77_3) x85_4)) := ⟨_, rfl⟩
   replace H : (expr_match.l4 k4 a1 (x6_4.set (x77_3 : Int).toNat y316) x67_2 t309 x77_3 l0_2 (l0_2.length : Int) x67_2 (x6_2.length : Int) x77_3 ((rd_L4 x6_3 x77_3).length : Int) (wrap64 (x85_4 + 1)) a0_0 a0_1 l0_2) = some r := by first | (rw [hy316]; with_reducible exact H) | (have H2_ := (Option.bind_some _ _).symm.trans H; rw [hy316]; with_reducible exact H2_) | (have H2_ := (Option.bind_some _ _).symm.trans H; with_reducible exact H2_) | with_reducible exact H | (rw [hy316]; exact H) | exact H
   have Ny316 := Aside0.mk hy316
   clear hy316
   obtain ⟨y318, hy318⟩ : ∃ y_ : List (List Int), y_ = (x6_4.set (x77_3 : Int).toNat y316) := ⟨_, rfl⟩
   replace H : (expr_match.l4 k4 a1 y318 x67_2 t309 x77_3 l0_2 (l0_2.length : Int) x67_2 (x6_2.length : Int) x77_3 ((rd_L4 x6_3 x77_3).length : Int) (wrap64 (x85_4 + 1)) a0_0 a0_1 l0_2) = some r := by first | (rw [hy318]; with_reducible exact H) | (have H2_ := (Option.bind_some _ _).symm.trans H; rw [hy318]; with_reducible exact H2_) | (have H2_ := (Option.bind_some _ _).symm.trans H; with_reducible exact H2_) | with_reducible exact H | (rw [hy318]; exact H) | exact H
   have Ny318 := Aside0.mk hy318
   clear hy318
   have H' := Aside0.mk H
   clear H
   try go_wp2
   have n0_ := Aside0.mk (Kd.S_drew HO_6.out)
   have n1_ := Aside0.mk (Kd.S_drew HO_11.out)
   have n2_ := Aside0.mk (blk_drew BK293.out)
   have n3_ := Aside0.mk (blk_drew BK308.out)
   have n4_ := Aside0.mk (below_drew1 HB.out)
   clear HO_6
   clear HO_11
   clear BK293
   clear BK308
   clear HB
   have HO_6 := n0_
   have HO_11 := n1_
   have BK293 := n2_
   have BK308 := n3_
   have HB := n4_
   clear n0_ n1_ n2_ n3_ n4_
   have p313 : 0 ≤ (x77_3 : Int) := of_decide_eq_true (by first | (with_reducible assumption) | assumption)
   have q313 : x77_3 < (x6_4.length : Int) := of_decide_eq_true (by first | (with_reducible assumption) | assumption)
   obtain ⟨ad313, A313_0, c313_0, e313, hx313_0, hl313_0, hi313_0⟩ := at_L4 (Kd.S_reads' HO_6.out).2.2 x77_3 p313 q313
   obtain rfl : ad312 = ad313 := (by injection e313)
   obtain ⟨ce313, hce313, hMe313, hcc313⟩ := Kd.S_get HO_6.out [] x77_3 p313 (by first | exact q313 | exact of_decide_eq_true (by first | (with_reducible assumption) | assumption) | (have e_ := (Kd.S_reads' HO_6.out).1; omega))
   obtain ⟨ve313_0, rfl, ge313_0⟩ := hMe313
   have hv313_0 := hcc313 0 _ rfl
   rw [Nat.add_zero, show ((Kd.slice 71 (Kd.int .u64))).sz = 1 from rfl, Nat.mul_one] at hv313_0
   replace hv313_0 := Option.some.inj (hv313_0.symm.trans hx313_0)
   rw [hv313_0] at ge313_0
   have HL313_0 := Aside0.mk (show Kd.R (Kd.int .u64) 71 _ _ _ _ (rd_L4 x6_4 x77_3) from ge313_0)
   clear hv313_0 ge313_0
   have HX313_0 := Aside0.mk hx313_0
   clear hcc313 hce313
   have HR313_0 := Aside0.mk hi313_0
   have HC313_0 := Aside0.mk hl313_0
   clear hi313_0 hl313_0
   replace p313 := eq_true p313
   replace q313 := eq_true q313
   obtain ⟨Ao67, co67, eo67⟩ := Kd.S_slice HO_11.out
   (first | subst eo67 | (injection eo67 with f1_ f2_ f3_; have f4_ := f1_.symm; have f5_ := f3_.symm; clear f1_ f2_ f3_; subst f4_; subst f5_))
   have p314 : 0 ≤ (x77_3 : Int) := of_decide_eq_true (by first | (with_reducible assumption) | assumption)
   have q314 : x77_3 < (t309.length : Int) := of_decide_eq_true (by first | (with_reducible assumption) | assumption)
   obtain ⟨ad314, A314_0, c314_0, e314, hx314_0, hl314_0, hi314_0⟩ := at_L4 (Kd.S_reads' HO_11.out).2.2 x77_3 p314 q314
   cases e314
   obtain ⟨ce314, hce314, hMe314, hcc314⟩ := Kd.S_get HO_11.out [] x77_3 p314 (by first | exact q314 | exact of_decide_eq_true (by first | (with_reducible assumption) | assumption) | (have e_ := (Kd.S_reads' HO_11.out).1; omega))
   obtain ⟨ve314_0, rfl, ge314_0⟩ := hMe314
   have hv314_0 := hcc314 0 _ rfl
   rw [Nat.add_zero, show ((Kd.slice 71 (Kd.int .u64))).sz = 1 from rfl, Nat.mul_one] at hv314_0
   replace hv314_0 := Option.some.inj (hv314_0.symm.trans hx314_0)
   rw [hv314_0] at ge314_0
   have HL314_0 := Aside0.mk (show Kd.R (Kd.int .u64) 71 _ _ _ _ (rd_L4 t309 x77_3) from ge314_0)
   clear hv314_0 ge314_0
   have HX314_0 := Aside0.mk hx314_0
   clear hcc314 hce314
   have HR314_0 := Aside0.mk hi314_0
   have HC314_0 := Aside0.mk hl314_0
   clear hi314_0 hl314_0
   replace p314 := eq_true p314
   replace q314 := eq_true q314
   have p315 : 0 ≤ (x85_4 : Int) := of_decide_eq_true (by first | (with_reducible assumption) | assumption)
   have q315 : x85_4 < ((rd_L4 t309 x77_3).length : Int) := of_decide_eq_true (by first | (with_reducible assumption) | assumption)
   obtain ⟨ad315, e315, hx315_0⟩ := Kd.at_int (by repeat (first | (with_reducible exact HR314_0.out) | (with_reducible refine Kd.C_alloc ?_ _) | (with_reducible refine Kd.C_drewN ?_ _) | (with_reducible refine Kd.C_drew ?_) | exact HR314_0.out)) x85_4 p315 q315
   cases e315
   replace p315 := eq_true p315
   replace q315 := eq_true q315
   have p65 : 0 ≤ (x85_4 : Int) := of_decide_eq_true (by first | (with_reducible assumption) | assumption)
   have q65 : (x85_4 : Int) < (((rd_L4 x6_4 x77_3).length : Int) : Int) := of_decide_eq_true (by first | (with_reducible assumption) | assumption)
   obtain ⟨go65, co65, eo65, gb65, gl65, cl65, HG65⟩ := Kd.R_form HL313_0.out (by omega)
   (first | cases eo65 | (injection eo65 with ea_ en_ ec_; (first | subst ea_ | (injection ea_ with ea_; subst ea_)); subst ec_; clear en_))
   have GB65 := Aside0.mk gb65
   have GG65 := Aside0.mk HG65
   clear gb65 gl65 HG65
   obtain ⟨hx65_0, hf65_0⟩ := Kd.R_celln 0 HL313_0.out (x85_4 : Int) p65 q65
   replace p65 := eq_true p65
   replace q65 := eq_true q65
   have hq68 : (x77_3 : Int) < (x6_4.length : Int) := (by have h_ : (x77_3 : Int) < ((x6_4.length : Int) : Int) := of_decide_eq_true (by first | (with_reducible assumption) | assumption); first | exact h_ | (have e_ := (Kd.S_reads' HO_6.out).1; omega) | simpa only [List.length_set, List.length_set] using h_)
   obtain ⟨oki68, ce68, hcl68, hM68, hcc68, hok68, hbk68⟩ := Kd.S_borrow HO_6.out [] (x77_3 : Int) (of_decide_eq_true (by first | (with_reducible assumption) | assumption)) hq68
   obtain ⟨ve68_0, rfl, ge68_0⟩ := hM68
   have hv68 := hcc68 0 _ rfl
   rw [Nat.add_zero, show ((Kd.slice 71 (Kd.int .u64))).sz = 1 from rfl, Nat.mul_one] at hv68
   replace hv68 := Option.some.inj (hv68.symm.trans HX313_0.out)
   subst hv68
   clear hcc68 hcl68
   replace ge68_0 := (show Kd.R (Kd.int .u64) 71 _ _ _ _ (rd_L4 x6_4 x77_3) from ge68_0)
   have HP68 := Kd.R_putg ge68_0 (x85_4 : Int) (rd (rd_L4 t309 x77_3) x85_4)
   rw [← Ny316.out] at HP68
   have HS68 := hbk68 HP68.2 (fun k_ e_ => by injection e_ with e_; subst e_; exact ge68_0.1 _ rfl) (x' := y316) (Kd.M_row HP68.1)
   rw [← Ny318.out] at HS68
   have HQ68 := Aside0.mk HS68
   clear HP68 HS68 hbk68 hok68
   refine start_ (n := 14) (S := fun w' => w'.cell? (ad312.add (x77_3).toNat) = some (.slice (some ⟨go65, 0, none⟩) (rd_L4 x6_4 x77_3).length c313_0) ∧ w'.cell? (ad314.add (x77_3).toNat) = some (.slice (some ad315) (rd_L4 t309 x77_3).length c314_0) ∧ w'.cell? (ad315.add (x85_4).toNat) = some (.int .u64 (rd (rd_L4 t309 x77_3) x85_4))) (ds := [13]) #[false, false, false, false, false, false, false, false, false, false, false, false, false, false] (by kernel_rfl) rfl rfl ⟨hx313_0, hx314_0, hx315_0⟩ (fun hHeld => ?_); refine with_tabW expr_match.tab30 expr_match.bits30 (fun HT_ HW_ => ?_)
   generalize wr.drew = w66 at HO_6 HO_11 BK293 BK308 HB GG65 HL313_0 HL314_0 HQ68 HR313_0 HR314_0 HX313_0 HX314_0 hf65_0 hx313_0 hx314_0 hx315_0 hx65_0 hHeld ⊢
   refine pure_ (i := 0) (N := some 107) (v := ?_) (a' := ?_) #[true, false, false, false, false, false, false, false, false, false, false, false, false, false] rfl rfl (any_of HT_.out (by kernel_rfl)) (fun _ _ _ h => h) (Or.inl ⟨by rfl, ?_⟩) ?_ ?_
   rotate_left
   ·intro w'
    go_simp
    with_reducible rfl
   rotate_left
   ·simp only [Act.put, List.setIfInBounds_toArray, List.set_cons_zero, List.set_cons_succ, i64_w, i32_w]
    rfl
   refine pure_ (i := 1) (N := some 108) (v := ?_) (a' := ?_) #[true, true, false, false, false, false, false, false, false, false, false, false, false, false] rfl rfl (any_of HT_.out (by kernel_rfl)) (fun _ _ _ h => h) (Or.inl ⟨by rfl, ?_⟩) ?_ ?_
   rotate_left
   ·intro w'
    go_simp
    with_reducible rfl
   rotate_left
   ·simp only [Act.put, List.setIfInBounds_toArray, List.set_cons_zero, List.set_cons_succ, i64_w, i32_w]
    rfl
   refine pure_ (i := 2) (N := some 109) (v := ?_) (a' := ?_) #[true, true, true, false, false, false, false, false, false, false, false, false, false, false] rfl rfl (any_of HT_.out (by kernel_rfl)) (fun _ _ _ h => h) (Or.inl ⟨by rfl, ?_⟩) ?_ ?_
   rotate_left
   ·intro w'
    go_simp
    with_reducible rfl
   rotate_left
   ·simp only [Act.put, List.setIfInBounds_toArray, List.set_cons_zero, List.set_cons_succ, i64_w, i32_w]
    rfl
   refine pure_ (i := 4) (N := some 111) (v := ?_) (a' := ?_) #[true, true, true, false, true, false, false, false, false, false, false, false, false, false] rfl rfl (any_of HT_.out (by kernel_rfl)) (fun _ _ _ h => h) (Or.inl ⟨by rfl, ?_⟩) ?_ ?_
   rotate_left
   ·intro w'
    go_simp
    with_reducible rfl
   rotate_left
   ·simp only [Act.put, List.setIfInBounds_toArray, List.set_cons_zero, List.set_cons_succ, i64_w, i32_w]
    rfl
   refine pure_ (i := 5) (N := some 112) (v := ?_) (a' := ?_) #[true, true, true, false, true, true, false, false, false, false, false, false, false, false] rfl rfl (any_of HT_.out (by kernel_rfl)) (fun _ _ _ h => h) (Or.inl ⟨by rfl, ?_⟩) ?_ ?_
   rotate_left
   ·intro w'
    go_simp
    with_reducible rfl
   rotate_left
   ·simp only [Act.put, List.setIfInBounds_toArray, List.set_cons_zero, List.set_cons_succ, i64_w, i32_w]
    rfl
   refine pure_ (i := 6) (N := some 113) (v := ?_) (a' := ?_) #[true, true, true, false, true, true, true, false, false, false, false, false, false, false] rfl rfl (any_of HT_.out (by kernel_rfl)) (fun _ _ _ h => h) (Or.inl ⟨by rfl, ?_⟩) ?_ ?_
   rotate_left
   ·intro w'
    go_simp
    with_reducible rfl
   rotate_left
   ·simp only [Act.put, List.setIfInBounds_toArray, List.set_cons_zero, List.set_cons_succ, i64_w, i32_w]
    rfl
   refine pure_ (i := 7) (N := some 114) (v := ?_) (a' := ?_) #[true, true, true, false, true, true, true, true, false, false, false, false, false, false] rfl rfl (any_of HT_.out (by kernel_rfl)) (fun _ _ _ h => h) (Or.inl ⟨by rfl, ?_⟩) ?_ ?_
   rotate_left
   ·intro w'
    go_simp
    with_reducible rfl
   rotate_left
   ·simp only [Act.put, List.setIfInBounds_toArray, List.set_cons_zero, List.set_cons_succ, i64_w, i32_w]
    rfl
   refine pure_ (i := 9) (N := some 116) (v := ?_) (a' := ?_) #[true, true, true, false, true, true, true, true, false, true, false, false, false, false] rfl rfl (any_of HT_.out (by kernel_rfl)) (fun _ _ _ h => h) (Or.inl ⟨by rfl, ?_⟩) ?_ ?_
   rotate_left
   ·intro w'
    go_simp
    with_reducible rfl
   rotate_left
   ·simp only [Act.put, List.setIfInBounds_toArray, List.set_cons_zero, List.set_cons_succ, i64_w, i32_w]
    rfl
   refine take_ (i := 3) (N := some 110) (v := ?_) (a' := ?_) #[true, true, true, true, true, true, true, true, false, true, false, false, false, false] rfl rfl (take_ofW HT_.out HW_.out (by kernel_rfl)) (fun _ _ _ h => h) (Or.inl ⟨by rfl, ?_⟩) hHeld ?_ ?_
   rotate_left
   ·rintro w' ⟨s0, s1, s2⟩
    go_simp
    with_reducible rfl
   rotate_left
   ·simp only [Act.put, List.setIfInBounds_toArray, List.set_cons_zero, List.set_cons_succ, i64_w, i32_w]
    rfl
   refine take_ (i := 8) (N := some 115) (v := ?_) (a' := ?_) #[true, true, true, true, true, true, true, true, true, true, false, false, false, false] rfl rfl (take_ofW HT_.out HW_.out (by kernel_rfl)) (fun _ _ _ h => h) (Or.inl ⟨by rfl, ?_⟩) hHeld ?_ ?_
   rotate_left
   ·rintro w' ⟨s0, s1, s2⟩
    go_simp
    with_reducible rfl
   rotate_left
   ·simp only [Act.put, List.setIfInBounds_toArray, List.set_cons_zero, List.set_cons_succ, i64_w, i32_w]
    rfl
   refine pure_ (i := 10) (N := some 117) (v := ?_) (a' := ?_) #[true, true, true, true, true, true, true, true, true, true, true, false, false, false] rfl rfl (any_of HT_.out (by kernel_rfl)) (fun _ _ _ h => h) (Or.inl ⟨by rfl, ?_⟩) ?_ ?_
   rotate_left
   ·intro w'
    go_simp
    with_reducible rfl
   rotate_left
   ·simp only [Act.put, List.setIfInBounds_toArray, List.set_cons_zero, List.set_cons_succ, i64_w, i32_w]
    rfl
   refine take_ (i := 11) (N := some 118) (v := ?_) (a' := ?_) #[true, true, true, true, true, true, true, true, true, true, true, true, false, false] rfl rfl (take_ofW HT_.out HW_.out (by kernel_rfl)) (fun _ _ _ h => h) (Or.inl ⟨by rfl, ?_⟩) hHeld ?_ ?_
   rotate_left
   ·rintro w' ⟨s0, s1, s2⟩
    go_simp
    with_reducible rfl
   rotate_left
   ·simp only [Act.put, List.setIfInBounds_toArray, List.set_cons_zero, List.set_cons_succ, i64_w, i32_w]
    rfl
   refine pure_ (i := 12) (N := some 119) (v := ?_) (a' := ?_) #[true, true, true, true, true, true, true, true, true, true, true, true, true, false] rfl rfl (any_of HT_.out (by kernel_rfl)) (fun _ _ _ h => h) (Or.inl ⟨by rfl, ?_⟩) ?_ ?_
   rotate_left
   ·intro w'
    go_simp
    with_reducible rfl
   rotate_left
   ·simp only [Act.put, List.setIfInBounds_toArray, List.set_cons_zero, List.set_cons_succ, i64_w, i32_w]
    rfl
   refine last_ (i := 13) (N := none) #[true, true, true, true, true, true, true, true, true, true, true, true, true, true] rfl rfl (one_of HT_.out (by kernel_rfl)) (by decide) (fun K hK => ?_)
   refine skip_ (w1 := ?_) (by rfl) rfl ?_ ?_
   rotate_left
   ·go_simp
    rfl
   refine hK.out _ _ ?_
   clear hK K
   refine done_ (done_of HT_.out (by kernel_rfl)) ?_
   try go_wp2
   (try simp only [← hl6_4])
   (first | go_roundg k4 | ((simp only [add_plain] at *); go_roundg k4))
   case measure => have := HJ40.out; have := HK2.out; have := HK3.out; have := HK4.out; omega
   case rel => exact ⟨(y318), (wrap64 (x85_4 + 1)), (by first | rfl | (simp; done) | (simp [*]; done)), H', ⟨by have := HJ40.out; have := HK2.out; have := HK3.out; have := HK4.out; omega⟩, ⟨by (try simp only [hl6_3]); (try simp only [hl6_4]); (with_reducible repeat (first | apply Kd.S_alloc | apply Kd.S_drewN | apply Kd.S_drew)); exact HQ68.out⟩, ⟨by (try simp only [hl6_3]); (try simp only [hl6_4]); (with_reducible repeat (first | apply Kd.S_alloc | apply Kd.S_drewN | apply Kd.S_drew)); exact Kd.S_mono (Kd.S_far (p := ⟨go65, (x85_4 : Int).toNat, none⟩) (Kd.S_mono HO_11.out (fun k_ hk => (⟨hk, (Nat.ne_of_gt (Nat.lt_of_lt_of_le ((HL313_0.out.1 _ rfl).1.2) (hk.2)))⟩ : _ ∧ k_ ≠ go65))) (fun _ hk => hk.2) (.int .u64 (rd (rd_L4 t309 x77_3) x85_4))) (fun _ hk => ⟨hk.1.1, hk.1.2⟩)⟩, ⟨by (try simp only [hl6_3]); (try simp only [hl6_4]); (with_reducible repeat (first | refine blk_drewN ?_ _ | refine blk_drew ?_ | refine blk_alloc ?_ _)); refine blk_far ?_ (by have h_ := Kd.R_ne HL313_0.out BK293.out (by decide); intro e_; exact h_ (by rw [e_]; rfl)) _; (with_reducible repeat (first | refine blk_drewN ?_ _ | refine blk_drew ?_ | refine blk_alloc ?_ _)); exact BK293.out⟩, ⟨by (try simp only [hl6_3]); (try simp only [hl6_4]); (with_reducible repeat (first | refine blk_drewN ?_ _ | refine blk_drew ?_ | refine blk_alloc ?_ _)); refine blk_far ?_ (by have h_ := Kd.R_ne HL313_0.out BK308.out (by decide); intro e_; exact h_ (by rw [e_]; rfl)) _; (with_reducible repeat (first | refine blk_drewN ?_ _ | refine blk_drew ?_ | refine blk_alloc ?_ _)); exact BK308.out⟩, ⟨by repeat (first | (with_reducible first | exact HB.out | apply below_alloc | apply pw_below_drewN | apply below_drew1 | refine below_set ?_ GB65.out | refine below_set ?_ GE293.out | refine below_set ?_ GE308.out) | exact HB.out)⟩⟩
  rw [if_neg c58] at H
  have c58b0 : (x67_2 == 0) = false := beq_eq_false_iff_ne.mpr c58
  have c58b1 : (x67_2 != 0) = true := bne_iff_ne.mpr c58
  by_cases c70 : a0_0 = 4
  rotate_left
  ·rw [if_neg c70] at H
   have c70b0 : (a0_0 == 4) = false := beq_eq_false_iff_ne.mpr c70
   have c70b1 : (a0_0 != 4) = true := bne_iff_ne.mpr c70
   by_cases c84 : 0 ≤ x77_3
   rotate_left
   ·rw [if_neg c84] at H
    exact absurd H (by simp)
   rw [if_pos c84] at H
   have c84b0 : decide (0 ≤ x77_3) = true := decide_eq_true c84
   clear c84
   by_cases c85 : x77_3 < (x6_4.length : Int)
   rotate_left
   ·rw [if_neg c85] at H
    exact absurd H (by simp)
   rw [if_pos c85] at H
   have c85b0 : decide (x77_3 < (x6_4.length : Int)) = true := decide_eq_true c85
   (try (have c85b0h := c85b0; simp only [hl6_3, hl6_4] at c85b0h))
   clear c85
   by_cases c86 : 0 ≤ x85_4
   rotate_left
   ·rw [if_neg c86] at H
    exact absurd H (by simp)
   rw [if_pos c86] at H
   have c86b0 : decide (0 ≤ x85_4) = true := decide_eq_true c86
   clear c86
   by_cases c87 : x85_4 < ((rd_L4 x6_4 x77_3).length : Int)
   rotate_left
   ·rw [if_neg c87] at H
    exact absurd H (by simp)
   rw [if_pos c87] at H
   have c87b0 : decide (x85_4 < ((rd_L4 x6_4 x77_3).length : Int)) = true := decide_eq_true c87
   (try (have c87b0h := c87b0; simp only [hl6_3, hl6_4] at c87b0h))
   clear c87
   by_cases c88 : x77_3 < (t309.length : Int)
   rotate_left
   ·rw [if_neg c88] at H
    exact absurd H (by simp)
   rw [if_pos c88] at H
   have c88b0 : decide (x77_3 < (t309.length : Int)) = true := decide_eq_true c88
   (try (have c88b0h := c88b0; simp only [hl6_3, hl6_4] at c88b0h))
   clear c88
   by_cases c89 : x85_4 < ((rd_L4 t309 x77_3).length : Int)
   rotate_left
   ·rw [if_neg c89] at H
    exact absurd H (by simp)
   rw [if_pos c89] at H
   have c89b0 : decide (x85_4 < ((rd_L4 t309 x77_3).length : Int)) = true := decide_eq_true c89
   (try (have c89b0h := c89b0; simp only [hl6_3, hl6_4] at c89b0h))
   clear c89
   obtain ⟨y330, hy330⟩ : ∃ y_ : List Int, y_ = ((rd_L4 x6_4 x77_3).set (x85_4 : Int).toNat (Go.bits .and .u64 (rd (rd_L4 x6_4 x77_3) x85_4) (rd (rd_L4 t309 x77_3) x85_4))) := ⟨_, rfl⟩
   replace H : (expr_match.l4 k4 a1 (x6_4.set (x77_3 : Int).toNat y330) x67_2 t309 x77_3 l0_2 (l0_2.length : Int) x67_2 (x6_2.length : Int) x77_3 ((rd_L4 x6_3 x77_3).length : Int) (wrap64 (x85_4 + 1)) a0_0 a0_1 l0_2) = some r := by first | (rw [hy330]; with_reducible exact H) | (have H2_ := (Option.bind_some _ _).symm.trans H; rw [hy330]; with_reducible exact H2_) | (have H2_ := (Option.bind_some _ _).symm.trans H; with_reducible exact H2_) | with_reducible exact H | (rw [hy330]; exact H) | exact H
   have Ny330 := Aside0.mk hy330
   clear hy330
   obtain ⟨y332, hy332⟩ : ∃ y_ : List (List Int), y_ = (x6_4.set (x77_3 : Int).toNat y330) := ⟨_, rfl⟩
   replace H : (expr_match.l4 k4 a1 y332 x67_2 t309 x77_3 l0_2 (l0_2.length : Int) x67_2 (x6_2.length : Int) x77_3 ((rd_L4 x6_3 x77_3).length : Int) (wrap64 (x85_4 + 1)) a0_0 a0_1 l0_2) = some r := by first | (rw [hy332]; with_reducible exact H) | (have H2_ := (Option.bind_some _ _).symm.trans H; rw [hy332]; with_reducible exact H2_) | (have H2_ := (Option.bind_some _ _).symm.trans H; with_reducible exact H2_) | with_reducible exact H | (rw [hy332]; exact H) | exact H
   have Ny332 := Aside0.mk hy332
   clear hy332
   have H' := Aside0.mk H
   clear H
   have hnb91 := NB293_308.out
   have hnc91 := NB308_293.out
   have hcz92_0 : wr.cell? ⟨gb293, 0, none⟩ = some (.int .i64 a0_0) := (blk_cell BK293.out 0).trans rfl
   have hcz92_1 : wr.cell? ⟨gb293, 1, none⟩ = some (.int .i64 a0_1) := (blk_cell BK293.out 1).trans rfl
   have hcz92_2 : wr.cell? ⟨gb293, 2, none⟩ = some (.slice (some ad307) l0_2.length c0_2) := (blk_cell BK293.out 2).trans rfl
   have hfz92_0 := blk_frozen BK293.out 0
   have hfz92_1 := blk_frozen BK293.out 1
   have hfz92_2 := blk_frozen BK293.out 2
   try go_wp2
   have n0_ := Aside0.mk (Kd.S_drew HO_6.out)
   have n1_ := Aside0.mk (Kd.S_drew HO_11.out)
   have n2_ := Aside0.mk (blk_drew BK293.out)
   have n3_ := Aside0.mk (blk_drew BK308.out)
   have n4_ := Aside0.mk (below_drew1 HB.out)
   clear HO_6
   clear HO_11
   clear BK293
   clear BK308
   clear HB
   have HO_6 := n0_
   have HO_11 := n1_
   have BK293 := n2_
   have BK308 := n3_
   have HB := n4_
   clear n0_ n1_ n2_ n3_ n4_
   have p326 : 0 ≤ (x77_3 : Int) := of_decide_eq_true (by first | (with_reducible assumption) | assumption)
   have q326 : x77_3 < (x6_4.length : Int) := of_decide_eq_true (by first | (with_reducible assumption) | assumption)
   obtain ⟨ad326, A326_0, c326_0, e326, hx326_0, hl326_0, hi326_0⟩ := at_L4 (Kd.S_reads' HO_6.out).2.2 x77_3 p326 q326
   obtain rfl : ad312 = ad326 := (by injection e326)
   obtain ⟨ce326, hce326, hMe326, hcc326⟩ := Kd.S_get HO_6.out [] x77_3 p326 (by first | exact q326 | exact of_decide_eq_true (by first | (with_reducible assumption) | assumption) | (have e_ := (Kd.S_reads' HO_6.out).1; omega))
   obtain ⟨ve326_0, rfl, ge326_0⟩ := hMe326
   have hv326_0 := hcc326 0 _ rfl
   rw [Nat.add_zero, show ((Kd.slice 71 (Kd.int .u64))).sz = 1 from rfl, Nat.mul_one] at hv326_0
   replace hv326_0 := Option.some.inj (hv326_0.symm.trans hx326_0)
   rw [hv326_0] at ge326_0
   have HL326_0 := Aside0.mk (show Kd.R (Kd.int .u64) 71 _ _ _ _ (rd_L4 x6_4 x77_3) from ge326_0)
   clear hv326_0 ge326_0
   have HX326_0 := Aside0.mk hx326_0
   clear hcc326 hce326
   have HR326_0 := Aside0.mk hi326_0
   have HC326_0 := Aside0.mk hl326_0
   clear hi326_0 hl326_0
   replace p326 := eq_true p326
   replace q326 := eq_true q326
   have p327 : 0 ≤ (x85_4 : Int) := of_decide_eq_true (by first | (with_reducible assumption) | assumption)
   have q327 : x85_4 < ((rd_L4 x6_4 x77_3).length : Int) := of_decide_eq_true (by first | (with_reducible assumption) | assumption)
   obtain ⟨ad327, e327, hx327_0⟩ := Kd.at_int (by repeat (first | (with_reducible exact HR326_0.out) | (with_reducible refine Kd.C_alloc ?_ _) | (with_reducible refine Kd.C_drewN ?_ _) | (with_reducible refine Kd.C_drew ?_) | exact HR326_0.out)) x85_4 p327 q327
   cases e327
   replace p327 := eq_true p327
   replace q327 := eq_true q327
   obtain ⟨Ao94, co94, eo94⟩ := Kd.S_slice HO_11.out
   (first | subst eo94 | (injection eo94 with f1_ f2_ f3_; have f4_ := f1_.symm; have f5_ := f3_.symm; clear f1_ f2_ f3_; subst f4_; subst f5_))
   have p328 : 0 ≤ (x77_3 : Int) := of_decide_eq_true (by first | (with_reducible assumption) | assumption)
   have q328 : x77_3 < (t309.length : Int) := of_decide_eq_true (by first | (with_reducible assumption) | assumption)
   obtain ⟨ad328, A328_0, c328_0, e328, hx328_0, hl328_0, hi328_0⟩ := at_L4 (Kd.S_reads' HO_11.out).2.2 x77_3 p328 q328
   cases e328
   obtain ⟨ce328, hce328, hMe328, hcc328⟩ := Kd.S_get HO_11.out [] x77_3 p328 (by first | exact q328 | exact of_decide_eq_true (by first | (with_reducible assumption) | assumption) | (have e_ := (Kd.S_reads' HO_11.out).1; omega))
   obtain ⟨ve328_0, rfl, ge328_0⟩ := hMe328
   have hv328_0 := hcc328 0 _ rfl
   rw [Nat.add_zero, show ((Kd.slice 71 (Kd.int .u64))).sz = 1 from rfl, Nat.mul_one] at hv328_0
   replace hv328_0 := Option.some.inj (hv328_0.symm.trans hx328_0)
   rw [hv328_0] at ge328_0
   have HL328_0 := Aside0.mk (show Kd.R (Kd.int .u64) 71 _ _ _ _ (rd_L4 t309 x77_3) from ge328_0)
   clear hv328_0 ge328_0
   have HX328_0 := Aside0.mk hx328_0
   clear hcc328 hce328
   have HR328_0 := Aside0.mk hi328_0
   have HC328_0 := Aside0.mk hl328_0
   clear hi328_0 hl328_0
   replace p328 := eq_true p328
   replace q328 := eq_true q328
   have p329 : 0 ≤ (x85_4 : Int) := of_decide_eq_true (by first | (with_reducible assumption) | assumption)
   have q329 : x85_4 < ((rd_L4 t309 x77_3).length : Int) := of_decide_eq_true (by first | (with_reducible assumption) | assumption)
   obtain ⟨ad329, e329, hx329_0⟩ := Kd.at_int (by repeat (first | (with_reducible exact HR328_0.out) | (with_reducible refine Kd.C_alloc ?_ _) | (with_reducible refine Kd.C_drewN ?_ _) | (with_reducible refine Kd.C_drew ?_) | exact HR328_0.out)) x85_4 p329 q329
   cases e329
   replace p329 := eq_true p329
   replace q329 := eq_true q329
   have p90 : 0 ≤ (x85_4 : Int) := of_decide_eq_true (by first | (with_reducible assumption) | assumption)
   have q90 : (x85_4 : Int) < (((rd_L4 x6_4 x77_3).length : Int) : Int) := of_decide_eq_true (by first | (with_reducible assumption) | assumption)
   obtain ⟨go90, co90, eo90, gb90, gl90, cl90, HG90⟩ := Kd.R_form HL326_0.out (by omega)
   (first | cases eo90 | (injection eo90 with ea_ en_ ec_; (first | subst ea_ | (injection ea_ with ea_; subst ea_)); subst ec_; clear en_))
   have GB90 := Aside0.mk gb90
   have GG90 := Aside0.mk HG90
   clear gb90 gl90 HG90
   (first | simp only [add_plain] at hx327_0 | skip)
   obtain ⟨hx90_0, hf90_0⟩ := Kd.R_celln 0 HL326_0.out (x85_4 : Int) p90 q90
   replace p90 := eq_true p90
   replace q90 := eq_true q90
   have hq95 : (x77_3 : Int) < (x6_4.length : Int) := (by have h_ : (x77_3 : Int) < ((x6_4.length : Int) : Int) := of_decide_eq_true (by first | (with_reducible assumption) | assumption); first | exact h_ | (have e_ := (Kd.S_reads' HO_6.out).1; omega) | simpa only [List.length_set, List.length_set] using h_)
   obtain ⟨oki95, ce95, hcl95, hM95, hcc95, hok95, hbk95⟩ := Kd.S_borrow HO_6.out [] (x77_3 : Int) (of_decide_eq_true (by first | (with_reducible assumption) | assumption)) hq95
   obtain ⟨ve95_0, rfl, ge95_0⟩ := hM95
   have hv95 := hcc95 0 _ rfl
   rw [Nat.add_zero, show ((Kd.slice 71 (Kd.int .u64))).sz = 1 from rfl, Nat.mul_one] at hv95
   replace hv95 := Option.some.inj (hv95.symm.trans HX326_0.out)
   subst hv95
   clear hcc95 hcl95
   replace ge95_0 := (show Kd.R (Kd.int .u64) 71 _ _ _ _ (rd_L4 x6_4 x77_3) from ge95_0)
   have HP95 := Kd.R_putg ge95_0 (x85_4 : Int) (Go.bits .and .u64 (rd (rd_L4 x6_4 x77_3) x85_4) (rd (rd_L4 t309 x77_3) x85_4))
   rw [← Ny330.out] at HP95
   have HS95 := hbk95 HP95.2 (fun k_ e_ => by injection e_ with e_; subst e_; exact ge95_0.1 _ rfl) (x' := y330) (Kd.M_row HP95.1)
   rw [← Ny332.out] at HS95
   have HQ95 := Aside0.mk HS95
   clear HP95 HS95 hbk95 hok95
   refine start_ (n := 17) (S := fun w' => w'.cell? (ad312.add (x77_3).toNat) = some (.slice (some ⟨go90, 0, none⟩) (rd_L4 x6_4 x77_3).length c326_0) ∧ w'.cell? ⟨go90, (x85_4).toNat, none⟩ = some (.int .u64 (rd (rd_L4 x6_4 x77_3) x85_4)) ∧ w'.cell? (ad328.add (x77_3).toNat) = some (.slice (some ad329) (rd_L4 t309 x77_3).length c328_0) ∧ w'.cell? (ad329.add (x85_4).toNat) = some (.int .u64 (rd (rd_L4 t309 x77_3) x85_4))) (ds := [16]) #[false, false, false, false, false, false, false, false, false, false, false, false, false, false, false, false, false] (by kernel_rfl) rfl rfl ⟨hx326_0, hx327_0, hx328_0, hx329_0⟩ (fun hHeld => ?_); refine with_tabW expr_match.tab28 expr_match.bits28 (fun HT_ HW_ => ?_)
   generalize wr.drew = w93 at HO_6 HO_11 BK293 BK308 HB GG90 HL326_0 HL328_0 HQ95 HR326_0 HR328_0 HX326_0 HX328_0 hf90_0 hx326_0 hx327_0 hx328_0 hx329_0 hx90_0 hHeld ⊢
   refine pure_ (i := 0) (N := some 88) (v := ?_) (a' := ?_) #[true, false, false, false, false, false, false, false, false, false, false, false, false, false, false, false, false] rfl rfl (any_of HT_.out (by kernel_rfl)) (fun _ _ _ h => h) (Or.inl ⟨by rfl, ?_⟩) ?_ ?_
   rotate_left
   ·intro w'
    go_simp
    with_reducible rfl
   rotate_left
   ·simp only [Act.put, List.setIfInBounds_toArray, List.set_cons_zero, List.set_cons_succ, i64_w, i32_w]
    rfl
   refine pure_ (i := 1) (N := some 89) (v := ?_) (a' := ?_) #[true, true, false, false, false, false, false, false, false, false, false, false, false, false, false, false, false] rfl rfl (any_of HT_.out (by kernel_rfl)) (fun _ _ _ h => h) (Or.inl ⟨by rfl, ?_⟩) ?_ ?_
   rotate_left
   ·intro w'
    go_simp
    with_reducible rfl
   rotate_left
   ·simp only [Act.put, List.setIfInBounds_toArray, List.set_cons_zero, List.set_cons_succ, i64_w, i32_w]
    rfl
   refine pure_ (i := 2) (N := some 90) (v := ?_) (a' := ?_) #[true, true, true, false, false, false, false, false, false, false, false, false, false, false, false, false, false] rfl rfl (any_of HT_.out (by kernel_rfl)) (fun _ _ _ h => h) (Or.inl ⟨by rfl, ?_⟩) ?_ ?_
   rotate_left
   ·intro w'
    go_simp
    with_reducible rfl
   rotate_left
   ·simp only [Act.put, List.setIfInBounds_toArray, List.set_cons_zero, List.set_cons_succ, i64_w, i32_w]
    rfl
   refine pure_ (i := 4) (N := some 92) (v := ?_) (a' := ?_) #[true, true, true, false, true, false, false, false, false, false, false, false, false, false, false, false, false] rfl rfl (any_of HT_.out (by kernel_rfl)) (fun _ _ _ h => h) (Or.inl ⟨by rfl, ?_⟩) ?_ ?_
   rotate_left
   ·intro w'
    go_simp
    with_reducible rfl
   rotate_left
   ·simp only [Act.put, List.setIfInBounds_toArray, List.set_cons_zero, List.set_cons_succ, i64_w, i32_w]
    rfl
   refine pure_ (i := 7) (N := some 95) (v := ?_) (a' := ?_) #[true, true, true, false, true, false, false, true, false, false, false, false, false, false, false, false, false] rfl rfl (any_of HT_.out (by kernel_rfl)) (fun _ _ _ h => h) (Or.inl ⟨by rfl, ?_⟩) ?_ ?_
   rotate_left
   ·intro w'
    go_simp
    with_reducible rfl
   rotate_left
   ·simp only [Act.put, List.setIfInBounds_toArray, List.set_cons_zero, List.set_cons_succ, i64_w, i32_w]
    rfl
   refine pure_ (i := 8) (N := some 96) (v := ?_) (a' := ?_) #[true, true, true, false, true, false, false, true, true, false, false, false, false, false, false, false, false] rfl rfl (any_of HT_.out (by kernel_rfl)) (fun _ _ _ h => h) (Or.inl ⟨by rfl, ?_⟩) ?_ ?_
   rotate_left
   ·intro w'
    go_simp
    with_reducible rfl
   rotate_left
   ·simp only [Act.put, List.setIfInBounds_toArray, List.set_cons_zero, List.set_cons_succ, i64_w, i32_w]
    rfl
   refine pure_ (i := 9) (N := some 97) (v := ?_) (a' := ?_) #[true, true, true, false, true, false, false, true, true, true, false, false, false, false, false, false, false] rfl rfl (any_of HT_.out (by kernel_rfl)) (fun _ _ _ h => h) (Or.inl ⟨by rfl, ?_⟩) ?_ ?_
   rotate_left
   ·intro w'
    go_simp
    with_reducible rfl
   rotate_left
   ·simp only [Act.put, List.setIfInBounds_toArray, List.set_cons_zero, List.set_cons_succ, i64_w, i32_w]
    rfl
   refine pure_ (i := 11) (N := some 99) (v := ?_) (a' := ?_) #[true, true, true, false, true, false, false, true, true, true, false, true, false, false, false, false, false] rfl rfl (any_of HT_.out (by kernel_rfl)) (fun _ _ _ h => h) (Or.inl ⟨by rfl, ?_⟩) ?_ ?_
   rotate_left
   ·intro w'
    go_simp
    with_reducible rfl
   rotate_left
   ·simp only [Act.put, List.setIfInBounds_toArray, List.set_cons_zero, List.set_cons_succ, i64_w, i32_w]
    rfl
   refine take_ (i := 3) (N := some 91) (v := ?_) (a' := ?_) #[true, true, true, true, true, false, false, true, true, true, false, true, false, false, false, false, false] rfl rfl (take_ofW HT_.out HW_.out (by kernel_rfl)) (fun _ _ _ h => h) (Or.inl ⟨by rfl, ?_⟩) hHeld ?_ ?_
   rotate_left
   ·rintro w' ⟨s0, s1, s2, s3⟩
    go_simp
    with_reducible rfl
   rotate_left
   ·simp only [Act.put, List.setIfInBounds_toArray, List.set_cons_zero, List.set_cons_succ, i64_w, i32_w]
    rfl
   refine pure_ (i := 5) (N := some 93) (v := ?_) (a' := ?_) #[true, true, true, true, true, true, false, true, true, true, false, true, false, false, false, false, false] rfl rfl (any_of HT_.out (by kernel_rfl)) (fun _ _ _ h => h) (Or.inl ⟨by rfl, ?_⟩) ?_ ?_
   rotate_left
   ·intro w'
    go_simp
    with_reducible rfl
   rotate_left
   ·simp only [Act.put, List.setIfInBounds_toArray, List.set_cons_zero, List.set_cons_succ, i64_w, i32_w]
    rfl
   refine take_ (i := 6) (N := some 94) (v := ?_) (a' := ?_) #[true, true, true, true, true, true, true, true, true, true, false, true, false, false, false, false, false] rfl rfl (take_ofW HT_.out HW_.out (by kernel_rfl)) (fun _ _ _ h => h) (Or.inl ⟨by rfl, ?_⟩) hHeld ?_ ?_
   rotate_left
   ·rintro w' ⟨s0, s1, s2, s3⟩
    go_simp
    with_reducible rfl
   rotate_left
   ·simp only [Act.put, List.setIfInBounds_toArray, List.set_cons_zero, List.set_cons_succ, i64_w, i32_w]
    rfl
   refine take_ (i := 10) (N := some 98) (v := ?_) (a' := ?_) #[true, true, true, true, true, true, true, true, true, true, true, true, false, false, false, false, false] rfl rfl (take_ofW HT_.out HW_.out (by kernel_rfl)) (fun _ _ _ h => h) (Or.inl ⟨by rfl, ?_⟩) hHeld ?_ ?_
   rotate_left
   ·rintro w' ⟨s0, s1, s2, s3⟩
    go_simp
    with_reducible rfl
   rotate_left
   ·simp only [Act.put, List.setIfInBounds_toArray, List.set_cons_zero, List.set_cons_succ, i64_w, i32_w]
    rfl
   refine pure_ (i := 12) (N := some 100) (v := ?_) (a' := ?_) #[true, true, true, true, true, true, true, true, true, true, true, true, true, false, false, false, false] rfl rfl (any_of HT_.out (by kernel_rfl)) (fun _ _ _ h => h) (Or.inl ⟨by rfl, ?_⟩) ?_ ?_
   rotate_left
   ·intro w'
    go_simp
    with_reducible rfl
   rotate_left
   ·simp only [Act.put, List.setIfInBounds_toArray, List.set_cons_zero, List.set_cons_succ, i64_w, i32_w]
    rfl
   refine take_ (i := 13) (N := some 101) (v := ?_) (a' := ?_) #[true, true, true, true, true, true, true, true, true, true, true, true, true, true, false, false, false] rfl rfl (take_ofW HT_.out HW_.out (by kernel_rfl)) (fun _ _ _ h => h) (Or.inl ⟨by rfl, ?_⟩) hHeld ?_ ?_
   rotate_left
   ·rintro w' ⟨s0, s1, s2, s3⟩
    go_simp
    with_reducible rfl
   rotate_left
   ·simp only [Act.put, List.setIfInBounds_toArray, List.set_cons_zero, List.set_cons_succ, i64_w, i32_w]
    rfl
   refine pure_ (i := 14) (N := some 102) (v := ?_) (a' := ?_) #[true, true, true, true, true, true, true, true, true, true, true, true, true, true, true, false, false] rfl rfl (any_of HT_.out (by kernel_rfl)) (fun _ _ _ h => h) (Or.inl ⟨by rfl, ?_⟩) ?_ ?_
   rotate_left
   ·intro w'
    go_simp
    with_reducible rfl
   rotate_left
   ·simp only [Act.put, List.setIfInBounds_toArray, List.set_cons_zero, List.set_cons_succ, i64_w, i32_w]
    rfl
   refine pure_ (i := 15) (N := some 103) (v := ?_) (a' := ?_) #[true, true, true, true, true, true, true, true, true, true, true, true, true, true, true, true, false] rfl rfl (any_of HT_.out (by kernel_rfl)) (fun _ _ _ h => h) (Or.inl ⟨by rfl, ?_⟩) ?_ ?_
   rotate_left
   ·intro w'
    go_simp
    with_reducible rfl
   rotate_left
   ·simp only [Act.put, List.setIfInBounds_toArray, List.set_cons_zero, List.set_cons_succ, i64_w, i32_w]
    rfl
   refine last_ (i := 16) (N := none) #[true, true, true, true, true, true, true, true, true, true, true, true, true, true, true, true, true] rfl rfl (one_of HT_.out (by kernel_rfl)) (by decide) (fun K hK => ?_)
   refine skip_ (w1 := ?_) (by rfl) rfl ?_ ?_
   rotate_left
   ·go_simp
    rfl
   refine hK.out _ _ ?_
   clear hK K
   refine done_ (done_of HT_.out (by kernel_rfl)) ?_
   try go_wp2
   (try simp only [← hl6_4])
   (first | go_roundg k4 | ((simp only [add_plain] at *); go_roundg k4))
   case measure => have := HJ40.out; have := HK2.out; have := HK3.out; have := HK4.out; omega
   case rel => exact ⟨(y332), (wrap64 (x85_4 + 1)), (by first | rfl | (simp; done) | (simp [*]; done)), H', ⟨by have := HJ40.out; have := HK2.out; have := HK3.out; have := HK4.out; omega⟩, ⟨by (try simp only [hl6_3]); (try simp only [hl6_4]); (with_reducible repeat (first | apply Kd.S_alloc | apply Kd.S_drewN | apply Kd.S_drew)); exact HQ95.out⟩, ⟨by (try simp only [hl6_3]); (try simp only [hl6_4]); (with_reducible repeat (first | apply Kd.S_alloc | apply Kd.S_drewN | apply Kd.S_drew)); exact Kd.S_mono (Kd.S_far (p := ⟨go90, (x85_4 : Int).toNat, none⟩) (Kd.S_mono HO_11.out (fun k_ hk => (⟨hk, (Nat.ne_of_gt (Nat.lt_of_lt_of_le ((HL326_0.out.1 _ rfl).1.2) (hk.2)))⟩ : _ ∧ k_ ≠ go90))) (fun _ hk => hk.2) (.int .u64 (Go.bits .and .u64 (rd (rd_L4 x6_4 x77_3) x85_4) (rd (rd_L4 t309 x77_3) x85_4)))) (fun _ hk => ⟨hk.1.1, hk.1.2⟩)⟩, ⟨by (try simp only [hl6_3]); (try simp only [hl6_4]); (with_reducible repeat (first | refine blk_drewN ?_ _ | refine blk_drew ?_ | refine blk_alloc ?_ _)); refine blk_far ?_ (by have h_ := Kd.R_ne HL326_0.out BK293.out (by decide); intro e_; exact h_ (by rw [e_]; rfl)) _; (with_reducible repeat (first | refine blk_drewN ?_ _ | refine blk_drew ?_ | refine blk_alloc ?_ _)); exact BK293.out⟩, ⟨by (try simp only [hl6_3]); (try simp only [hl6_4]); (with_reducible repeat (first | refine blk_drewN ?_ _ | refine blk_drew ?_ | refine blk_alloc ?_ _)); refine blk_far ?_ (by have h_ := Kd.R_ne HL326_0.out BK308.out (by decide); intro e_; exact h_ (by rw [e_]; rfl)) _; (with_reducible repeat (first | refine blk_drewN ?_ _ | refine blk_drew ?_ | refine blk_alloc ?_ _)); exact BK308.out⟩, ⟨by repeat (first | (with_reducible first | exact HB.out | apply below_alloc | apply pw_below_drewN | apply below_drew1 | refine below_set ?_ GB90.out | refine below_set ?_ GE293.out | refine below_set ?_ GE308.out) | exact HB.out)⟩⟩
  rw [if_pos c70] at H
  have c70b0 : (a0_0 == 4) = true := beq_iff_eq.mpr c70
  have c70b1 : (a0_0 != 4) = false := bne_eq_false_iff_eq.mpr c70
  clear c70
  by_cases c71 : 0 ≤ x77_3
  rotate_left
  ·rw [if_neg c71] at H
   exact absurd H (by simp)
  rw [if_pos c71] at H
  have c71b0 : decide (0 ≤ x77_3) = true := decide_eq_true c71
  clear c71
  by_cases c72 : x77_3 < (x6_4.length : Int)
  rotate_left
  ·rw [if_neg c72] at H
   exact absurd H (by simp)
  rw [if_pos c72] at H
  have c72b0 : decide (x77_3 < (x6_4.length : Int)) = true := decide_eq_true c72
  (try (have c72b0h := c72b0; simp only [hl6_3, hl6_4] at c72b0h))
  clear c72
  by_cases c73 : 0 ≤ x85_4
  rotate_left
  ·rw [if_neg c73] at H
   exact absurd H (by simp)
  rw [if_pos c73] at H
  have c73b0 : decide (0 ≤ x85_4) = true := decide_eq_true c73
  clear c73
  by_cases c74 : x85_4 < ((rd_L4 x6_4 x77_3).length : Int)
  rotate_left
  ·rw [if_neg c74] at H
   exact absurd H (by simp)
  rw [if_pos c74] at H
  have c74b0 : decide (x85_4 < ((rd_L4 x6_4 x77_3).length : Int)) = true := decide_eq_true c74
  (try (have c74b0h := c74b0; simp only [hl6_3, hl6_4] at c74b0h))
  clear c74
  by_cases c75 : x77_3 < (t309.length : Int)
  rotate_left
  ·rw [if_neg c75] at H
   exact absurd H (by simp)
  rw [if_pos c75] at H
  have c75b0 : decide (x77_3 < (t309.length : Int)) = true := decide_eq_true c75
  (try (have c75b0h := c75b0; simp only [hl6_3, hl6_4] at c75b0h))
  clear c75
  by_cases c76 : x85_4 < ((rd_L4 t309 x77_3).length : Int)
  rotate_left
  ·rw [if_neg c76] at H
   exact absurd H (by simp)
  rw [if_pos c76] at H
  have c76b0 : decide (x85_4 < ((rd_L4 t309 x77_3).length : Int)) = true := decide_eq_true c76
  (try (have c76b0h := c76b0; simp only [hl6_3, hl6_4] at c76b0h))
  clear c76
  obtain ⟨y323, hy323⟩ : ∃ y_ : List Int, y_ = ((rd_L4 x6_4 x77_3).set (x85_4 : Int).toNat (Go.bits .or .u64 (rd (rd_L4 x6_4 x77_3) x85_4) (rd (rd_L4 t309 x77_3) x85_4))) := ⟨_, rfl⟩
  replace H : (expr_match.l4 k4 a1 (x6_4.set (x77_3 : Int).toNat y323) x67_2 t309 x77_3 l0_2 (l0_2.length : Int) x67_2 (x6_2.length : Int) x77_3 ((rd_L4 x6_3 x77_3).length : Int) (wrap64 (x85_4 + 1)) a0_0 a0_1 l0_2) = some r := by first | (rw [hy323]; with_reducible exact H) | (have H2_ := (Option.bind_some _ _).symm.trans H; rw [hy323]; with_reducible exact H2_) | (have H2_ := (Option.bind_some _ _).symm.trans H; with_reducible exact H2_) | with_reducible exact H | (rw [hy323]; exact H) | exact H
  have Ny323 := Aside0.mk hy323
  clear hy323
  obtain ⟨y325, hy325⟩ : ∃ y_ : List (List Int), y_ = (x6_4.set (x77_3 : Int).toNat y323) := ⟨_, rfl⟩
  replace H : (expr_match.l4 k4 a1 y325 x67_2 t309 x77_3 l0_2 (l0_2.length : Int) x67_2 (x6_2.length : Int) x77_3 ((rd_L4 x6_3 x77_3).length : Int) (wrap64 (x85_4 + 1)) a0_0 a0_1 l0_2) = some r := by first | (rw [hy325]; with_reducible exact H) | (have H2_ := (Option.bind_some _ _).symm.trans H; rw [hy325]; with_reducible exact H2_) | (have H2_ := (Option.bind_some _ _).symm.trans H; with_reducible exact H2_) | with_reducible exact H | (rw [hy325]; exact H) | exact H
  have Ny325 := Aside0.mk hy325
  clear hy325
  have H' := Aside0.mk H
  clear H
  have hnb78 := NB293_308.out
  have hnc78 := NB308_293.out
  have hcz79_0 : wr.cell? ⟨gb293, 0, none⟩ = some (.int .i64 a0_0) := (blk_cell BK293.out 0).trans rfl
  have hcz79_1 : wr.cell? ⟨gb293, 1, none⟩ = some (.int .i64 a0_1) := (blk_cell BK293.out 1).trans rfl
  have hcz79_2 : wr.cell? ⟨gb293, 2, none⟩ = some (.slice (some ad307) l0_2.length c0_2) := (blk_cell BK293.out 2).trans rfl
  have hfz79_0 := blk_frozen BK293.out 0
  have hfz79_1 := blk_frozen BK293.out 1
  have hfz79_2 := blk_frozen BK293.out 2
  try go_wp2
  have n0_ := Aside0.mk (Kd.S_drew HO_6.out)
  have n1_ := Aside0.mk (Kd.S_drew HO_11.out)
  have n2_ := Aside0.mk (blk_drew BK293.out)
  have n3_ := Aside0.mk (blk_drew BK308.out)
  have n4_ := Aside0.mk (below_drew1 HB.out)
  clear HO_6
  clear HO_11
  clear BK293
  clear BK308
  clear HB
  have HO_6 := n0_
  have HO_11 := n1_
  have BK293 := n2_
  have BK308 := n3_
  have HB := n4_
  clear n0_ n1_ n2_ n3_ n4_
  have p319 : 0 ≤ (x77_3 : Int) := of_decide_eq_true (by first | (with_reducible assumption) | assumption)
  have q319 : x77_3 < (x6_4.length : Int) := of_decide_eq_true (by first | (with_reducible assumption) | assumption)
  obtain ⟨ad319, A319_0, c319_0, e319, hx319_0, hl319_0, hi319_0⟩ := at_L4 (Kd.S_reads' HO_6.out).2.2 x77_3 p319 q319
  obtain rfl : ad312 = ad319 := (by injection e319)
  obtain ⟨ce319, hce319, hMe319, hcc319⟩ := Kd.S_get HO_6.out [] x77_3 p319 (by first | exact q319 | exact of_decide_eq_true (by first | (with_reducible assumption) | assumption) | (have e_ := (Kd.S_reads' HO_6.out).1; omega))
  obtain ⟨ve319_0, rfl, ge319_0⟩ := hMe319
  have hv319_0 := hcc319 0 _ rfl
  rw [Nat.add_zero, show ((Kd.slice 71 (Kd.int .u64))).sz = 1 from rfl, Nat.mul_one] at hv319_0
  replace hv319_0 := Option.some.inj (hv319_0.symm.trans hx319_0)
  rw [hv319_0] at ge319_0
  have HL319_0 := Aside0.mk (show Kd.R (Kd.int .u64) 71 _ _ _ _ (rd_L4 x6_4 x77_3) from ge319_0)
  clear hv319_0 ge319_0
  have HX319_0 := Aside0.mk hx319_0
  clear hcc319 hce319
  have HR319_0 := Aside0.mk hi319_0
  have HC319_0 := Aside0.mk hl319_0
  clear hi319_0 hl319_0
  replace p319 := eq_true p319
  replace q319 := eq_true q319
  have p320 : 0 ≤ (x85_4 : Int) := of_decide_eq_true (by first | (with_reducible assumption) | assumption)
  have q320 : x85_4 < ((rd_L4 x6_4 x77_3).length : Int) := of_decide_eq_true (by first | (with_reducible assumption) | assumption)
  obtain ⟨ad320, e320, hx320_0⟩ := Kd.at_int (by repeat (first | (with_reducible exact HR319_0.out) | (with_reducible refine Kd.C_alloc ?_ _) | (with_reducible refine Kd.C_drewN ?_ _) | (with_reducible refine Kd.C_drew ?_) | exact HR319_0.out)) x85_4 p320 q320
  cases e320
  replace p320 := eq_true p320
  replace q320 := eq_true q320
  obtain ⟨Ao81, co81, eo81⟩ := Kd.S_slice HO_11.out
  (first | subst eo81 | (injection eo81 with f1_ f2_ f3_; have f4_ := f1_.symm; have f5_ := f3_.symm; clear f1_ f2_ f3_; subst f4_; subst f5_))
  have p321 : 0 ≤ (x77_3 : Int) := of_decide_eq_true (by first | (with_reducible assumption) | assumption)
  have q321 : x77_3 < (t309.length : Int) := of_decide_eq_true (by first | (with_reducible assumption) | assumption)
  obtain ⟨ad321, A321_0, c321_0, e321, hx321_0, hl321_0, hi321_0⟩ := at_L4 (Kd.S_reads' HO_11.out).2.2 x77_3 p321 q321
  cases e321
  obtain ⟨ce321, hce321, hMe321, hcc321⟩ := Kd.S_get HO_11.out [] x77_3 p321 (by first | exact q321 | exact of_decide_eq_true (by first | (with_reducible assumption) | assumption) | (have e_ := (Kd.S_reads' HO_11.out).1; omega))
  obtain ⟨ve321_0, rfl, ge321_0⟩ := hMe321
  have hv321_0 := hcc321 0 _ rfl
  rw [Nat.add_zero, show ((Kd.slice 71 (Kd.int .u64))).sz = 1 from rfl, Nat.mul_one] at hv321_0
  replace hv321_0 := Option.some.inj (hv321_0.symm.trans hx321_0)
  rw [hv321_0] at ge321_0
  have HL321_0 := Aside0.mk (show Kd.R (Kd.int .u64) 71 _ _ _ _ (rd_L4 t309 x77_3) from ge321_0)
  clear hv321_0 ge321_0
  have HX321_0 := Aside0.mk hx321_0
  clear hcc321 hce321
  have HR321_0 := Aside0.mk hi321_0
  have HC321_0 := Aside0.mk hl321_0
  clear hi321_0 hl321_0
  replace p321 := eq_true p321
  replace q321 := eq_true q321
  have p322 : 0 ≤ (x85_4 : Int) := of_decide_eq_true (by first | (with_reducible assumption) | assumption)
  have q322 : x85_4 < ((rd_L4 t309 x77_3).length : Int) := of_decide_eq_true (by first | (with_reducible assumption) | assumption)
  obtain ⟨ad322, e322, hx322_0⟩ := Kd.at_int (by repeat (first | (with_reducible exact HR321_0.out) | (with_reducible refine Kd.C_alloc ?_ _) | (with_reducible refine Kd.C_drewN ?_ _) | (with_reducible refine Kd.C_drew ?_) | exact HR321_0.out)) x85_4 p322 q322
  cases e322
  replace p322 := eq_true p322
  replace q322 := eq_true q322
  have p77 : 0 ≤ (x85_4 : Int) := of_decide_eq_true (by first | (with_reducible assumption) | assumption)
  have q77 : (x85_4 : Int) < (((rd_L4 x6_4 x77_3).length : Int) : Int) := of_decide_eq_true (by first | (with_reducible assumption) | assumption)
  obtain ⟨go77, co77, eo77, gb77, gl77, cl77, HG77⟩ := Kd.R_form HL319_0.out (by omega)
  (first | cases eo77 | (injection eo77 with ea_ en_ ec_; (first | subst ea_ | (injection ea_ with ea_; subst ea_)); subst ec_; clear en_))
  have GB77 := Aside0.mk gb77
  have GG77 := Aside0.mk HG77
  clear gb77 gl77 HG77
  (first | simp only [add_plain] at hx320_0 | skip)
  obtain ⟨hx77_0, hf77_0⟩ := Kd.R_celln 0 HL319_0.out (x85_4 : Int) p77 q77
  replace p77 := eq_true p77
  replace q77 := eq_true q77
  have hq82 : (x77_3 : Int) < (x6_4.length : Int) := (by have h_ : (x77_3 : Int) < ((x6_4.length : Int) : Int) := of_decide_eq_true (by first | (with_reducible assumption) | assumption); first | exact h_ | (have e_ := (Kd.S_reads' HO_6.out).1; omega) | simpa only [List.length_set, List.length_set] using h_)
  obtain ⟨oki82, ce82, hcl82, hM82, hcc82, hok82, hbk82⟩ := Kd.S_borrow HO_6.out [] (x77_3 : Int) (of_decide_eq_true (by first | (with_reducible assumption) | assumption)) hq82
  obtain ⟨ve82_0, rfl, ge82_0⟩ := hM82
  have hv82 := hcc82 0 _ rfl
  rw [Nat.add_zero, show ((Kd.slice 71 (Kd.int .u64))).sz = 1 from rfl, Nat.mul_one] at hv82
  replace hv82 := Option.some.inj (hv82.symm.trans HX319_0.out)
  subst hv82
  clear hcc82 hcl82
  replace ge82_0 := (show Kd.R (Kd.int .u64) 71 _ _ _ _ (rd_L4 x6_4 x77_3) from ge82_0)
  have HP82 := Kd.R_putg ge82_0 (x85_4 : Int) (Go.bits .or .u64 (rd (rd_L4 x6_4 x77_3) x85_4) (rd (rd_L4 t309 x77_3) x85_4))
  rw [← Ny323.out] at HP82
  have HS82 := hbk82 HP82.2 (fun k_ e_ => by injection e_ with e_; subst e_; exact ge82_0.1 _ rfl) (x' := y323) (Kd.M_row HP82.1)
  rw [← Ny325.out] at HS82
  have HQ82 := Aside0.mk HS82
  clear HP82 HS82 hbk82 hok82
  refine start_ (n := 17) (S := fun w' => w'.cell? (ad312.add (x77_3).toNat) = some (.slice (some ⟨go77, 0, none⟩) (rd_L4 x6_4 x77_3).length c319_0) ∧ w'.cell? ⟨go77, (x85_4).toNat, none⟩ = some (.int .u64 (rd (rd_L4 x6_4 x77_3) x85_4)) ∧ w'.cell? (ad321.add (x77_3).toNat) = some (.slice (some ad322) (rd_L4 t309 x77_3).length c321_0) ∧ w'.cell? (ad322.add (x85_4).toNat) = some (.int .u64 (rd (rd_L4 t309 x77_3) x85_4))) (ds := [16]) #[false, false, false, false, false, false, false, false, false, false, false, false, false, false, false, false, false] (by kernel_rfl) rfl rfl ⟨hx319_0, hx320_0, hx321_0, hx322_0⟩ (fun hHeld => ?_); refine with_tabW expr_match.tab32 expr_match.bits32 (fun HT_ HW_ => ?_)
  generalize wr.drew = w80 at HO_6 HO_11 BK293 BK308 HB GG77 HL319_0 HL321_0 HQ82 HR319_0 HR321_0 HX319_0 HX321_0 hf77_0 hx319_0 hx320_0 hx321_0 hx322_0 hx77_0 hHeld ⊢
  refine pure_ (i := 0) (N := some 124) (v := ?_) (a' := ?_) #[true, false, false, false, false, false, false, false, false, false, false, false, false, false, false, false, false] rfl rfl (any_of HT_.out (by kernel_rfl)) (fun _ _ _ h => h) (Or.inl ⟨by rfl, ?_⟩) ?_ ?_
  rotate_left
  ·intro w'
   go_simp
   with_reducible rfl
  rotate_left
  ·simp only [Act.put, List.setIfInBounds_toArray, List.set_cons_zero, List.set_cons_succ, i64_w, i32_w]
   rfl
  refine pure_ (i := 1) (N := some 125) (v := ?_) (a' := ?_) #[true, true, false, false, false, false, false, false, false, false, false, false, false, false, false, false, false] rfl rfl (any_of HT_.out (by kernel_rfl)) (fun _ _ _ h => h) (Or.inl ⟨by rfl, ?_⟩) ?_ ?_
  rotate_left
  ·intro w'
   go_simp
   with_reducible rfl
  rotate_left
  ·simp only [Act.put, List.setIfInBounds_toArray, List.set_cons_zero, List.set_cons_succ, i64_w, i32_w]
   rfl
  refine pure_ (i := 2) (N := some 126) (v := ?_) (a' := ?_) #[true, true, true, false, false, false, false, false, false, false, false, false, false, false, false, false, false] rfl rfl (any_of HT_.out (by kernel_rfl)) (fun _ _ _ h => h) (Or.inl ⟨by rfl, ?_⟩) ?_ ?_
  rotate_left
  ·intro w'
   go_simp
   with_reducible rfl
  rotate_left
  ·simp only [Act.put, List.setIfInBounds_toArray, List.set_cons_zero, List.set_cons_succ, i64_w, i32_w]
   rfl
  refine pure_ (i := 4) (N := some 128) (v := ?_) (a' := ?_) #[true, true, true, false, true, false, false, false, false, false, false, false, false, false, false, false, false] rfl rfl (any_of HT_.out (by kernel_rfl)) (fun _ _ _ h => h) (Or.inl ⟨by rfl, ?_⟩) ?_ ?_
  rotate_left
  ·intro w'
   go_simp
   with_reducible rfl
  rotate_left
  ·simp only [Act.put, List.setIfInBounds_toArray, List.set_cons_zero, List.set_cons_succ, i64_w, i32_w]
   rfl
  refine pure_ (i := 7) (N := some 131) (v := ?_) (a' := ?_) #[true, true, true, false, true, false, false, true, false, false, false, false, false, false, false, false, false] rfl rfl (any_of HT_.out (by kernel_rfl)) (fun _ _ _ h => h) (Or.inl ⟨by rfl, ?_⟩) ?_ ?_
  rotate_left
  ·intro w'
   go_simp
   with_reducible rfl
  rotate_left
  ·simp only [Act.put, List.setIfInBounds_toArray, List.set_cons_zero, List.set_cons_succ, i64_w, i32_w]
   rfl
  refine pure_ (i := 8) (N := some 132) (v := ?_) (a' := ?_) #[true, true, true, false, true, false, false, true, true, false, false, false, false, false, false, false, false] rfl rfl (any_of HT_.out (by kernel_rfl)) (fun _ _ _ h => h) (Or.inl ⟨by rfl, ?_⟩) ?_ ?_
  rotate_left
  ·intro w'
   go_simp
   with_reducible rfl
  rotate_left
  ·simp only [Act.put, List.setIfInBounds_toArray, List.set_cons_zero, List.set_cons_succ, i64_w, i32_w]
   rfl
  refine pure_ (i := 9) (N := some 133) (v := ?_) (a' := ?_) #[true, true, true, false, true, false, false, true, true, true, false, false, false, false, false, false, false] rfl rfl (any_of HT_.out (by kernel_rfl)) (fun _ _ _ h => h) (Or.inl ⟨by rfl, ?_⟩) ?_ ?_
  rotate_left
  ·intro w'
   go_simp
   with_reducible rfl
  rotate_left
  ·simp only [Act.put, List.setIfInBounds_toArray, List.set_cons_zero, List.set_cons_succ, i64_w, i32_w]
   rfl
  refine pure_ (i := 11) (N := some 135) (v := ?_) (a' := ?_) #[true, true, true, false, true, false, false, true, true, true, false, true, false, false, false, false, false] rfl rfl (any_of HT_.out (by kernel_rfl)) (fun _ _ _ h => h) (Or.inl ⟨by rfl, ?_⟩) ?_ ?_
  rotate_left
  ·intro w'
   go_simp
   with_reducible rfl
  rotate_left
  ·simp only [Act.put, List.setIfInBounds_toArray, List.set_cons_zero, List.set_cons_succ, i64_w, i32_w]
   rfl
  refine take_ (i := 3) (N := some 127) (v := ?_) (a' := ?_) #[true, true, true, true, true, false, false, true, true, true, false, true, false, false, false, false, false] rfl rfl (take_ofW HT_.out HW_.out (by kernel_rfl)) (fun _ _ _ h => h) (Or.inl ⟨by rfl, ?_⟩) hHeld ?_ ?_
  rotate_left
  ·rintro w' ⟨s0, s1, s2, s3⟩
   go_simp
   with_reducible rfl
  rotate_left
  ·simp only [Act.put, List.setIfInBounds_toArray, List.set_cons_zero, List.set_cons_succ, i64_w, i32_w]
   rfl
  refine pure_ (i := 5) (N := some 129) (v := ?_) (a' := ?_) #[true, true, true, true, true, true, false, true, true, true, false, true, false, false, false, false, false] rfl rfl (any_of HT_.out (by kernel_rfl)) (fun _ _ _ h => h) (Or.inl ⟨by rfl, ?_⟩) ?_ ?_
  rotate_left
  ·intro w'
   go_simp
   with_reducible rfl
  rotate_left
  ·simp only [Act.put, List.setIfInBounds_toArray, List.set_cons_zero, List.set_cons_succ, i64_w, i32_w]
   rfl
  refine take_ (i := 6) (N := some 130) (v := ?_) (a' := ?_) #[true, true, true, true, true, true, true, true, true, true, false, true, false, false, false, false, false] rfl rfl (take_ofW HT_.out HW_.out (by kernel_rfl)) (fun _ _ _ h => h) (Or.inl ⟨by rfl, ?_⟩) hHeld ?_ ?_
  rotate_left
  ·rintro w' ⟨s0, s1, s2, s3⟩
   go_simp
   with_reducible rfl
  rotate_left
  ·simp only [Act.put, List.setIfInBounds_toArray, List.set_cons_zero, List.set_cons_succ, i64_w, i32_w]
   rfl
  refine take_ (i := 10) (N := some 134) (v := ?_) (a' := ?_) #[true, true, true, true, true, true, true, true, true, true, true, true, false, false, false, false, false] rfl rfl (take_ofW HT_.out HW_.out (by kernel_rfl)) (fun _ _ _ h => h) (Or.inl ⟨by rfl, ?_⟩) hHeld ?_ ?_
  rotate_left
  ·rintro w' ⟨s0, s1, s2, s3⟩
   go_simp
   with_reducible rfl
  rotate_left
  ·simp only [Act.put, List.setIfInBounds_toArray, List.set_cons_zero, List.set_cons_succ, i64_w, i32_w]
   rfl
  refine pure_ (i := 12) (N := some 136) (v := ?_) (a' := ?_) #[true, true, true, true, true, true, true, true, true, true, true, true, true, false, false, false, false] rfl rfl (any_of HT_.out (by kernel_rfl)) (fun _ _ _ h => h) (Or.inl ⟨by rfl, ?_⟩) ?_ ?_
  rotate_left
  ·intro w'
   go_simp
   with_reducible rfl
  rotate_left
  ·simp only [Act.put, List.setIfInBounds_toArray, List.set_cons_zero, List.set_cons_succ, i64_w, i32_w]
   rfl
  refine take_ (i := 13) (N := some 137) (v := ?_) (a' := ?_) #[true, true, true, true, true, true, true, true, true, true, true, true, true, true, false, false, false] rfl rfl (take_ofW HT_.out HW_.out (by kernel_rfl)) (fun _ _ _ h => h) (Or.inl ⟨by rfl, ?_⟩) hHeld ?_ ?_
  rotate_left
  ·rintro w' ⟨s0, s1, s2, s3⟩
   go_simp
   with_reducible rfl
  rotate_left
  ·simp only [Act.put, List.setIfInBounds_toArray, List.set_cons_zero, List.set_cons_succ, i64_w, i32_w]
   rfl
  refine pure_ (i := 14) (N := some 138) (v := ?_) (a' := ?_) #[true, true, true, true, true, true, true, true, true, true, true, true, true, true, true, false, false] rfl rfl (any_of HT_.out (by kernel_rfl)) (fun _ _ _ h => h) (Or.inl ⟨by rfl, ?_⟩) ?_ ?_
  rotate_left
  ·intro w'
   go_simp
   with_reducible rfl
  rotate_left
  ·simp only [Act.put, List.setIfInBounds_toArray, List.set_cons_zero, List.set_cons_succ, i64_w, i32_w]
   rfl
  refine pure_ (i := 15) (N := some 139) (v := ?_) (a' := ?_) #[true, true, true, true, true, true, true, true, true, true, true, true, true, true, true, true, false] rfl rfl (any_of HT_.out (by kernel_rfl)) (fun _ _ _ h => h) (Or.inl ⟨by rfl, ?_⟩) ?_ ?_
  rotate_left
  ·intro w'
   go_simp
   with_reducible rfl
  rotate_left
  ·simp only [Act.put, List.setIfInBounds_toArray, List.set_cons_zero, List.set_cons_succ, i64_w, i32_w]
   rfl
  refine last_ (i := 16) (N := none) #[true, true, true, true, true, true, true, true, true, true, true, true, true, true, true, true, true] rfl rfl (one_of HT_.out (by kernel_rfl)) (by decide) (fun K hK => ?_)
  refine skip_ (w1 := ?_) (by rfl) rfl ?_ ?_
  rotate_left
  ·go_simp
   rfl
  refine hK.out _ _ ?_
  clear hK K
  refine done_ (done_of HT_.out (by kernel_rfl)) ?_
  try go_wp2
  (try simp only [← hl6_4])
  (first | go_roundg k4 | ((simp only [add_plain] at *); go_roundg k4))
  case measure => have := HJ40.out; have := HK2.out; have := HK3.out; have := HK4.out; omega
  case rel => exact ⟨(y325), (wrap64 (x85_4 + 1)), (by first | rfl | (simp; done) | (simp [*]; done)), H', ⟨by have := HJ40.out; have := HK2.out; have := HK3.out; have := HK4.out; omega⟩, ⟨by (try simp only [hl6_3]); (try simp only [hl6_4]); (with_reducible repeat (first | apply Kd.S_alloc | apply Kd.S_drewN | apply Kd.S_drew)); exact HQ82.out⟩, ⟨by (try simp only [hl6_3]); (try simp only [hl6_4]); (with_reducible repeat (first | apply Kd.S_alloc | apply Kd.S_drewN | apply Kd.S_drew)); exact Kd.S_mono (Kd.S_far (p := ⟨go77, (x85_4 : Int).toNat, none⟩) (Kd.S_mono HO_11.out (fun k_ hk => (⟨hk, (Nat.ne_of_gt (Nat.lt_of_lt_of_le ((HL319_0.out.1 _ rfl).1.2) (hk.2)))⟩ : _ ∧ k_ ≠ go77))) (fun _ hk => hk.2) (.int .u64 (Go.bits .or .u64 (rd (rd_L4 x6_4 x77_3) x85_4) (rd (rd_L4 t309 x77_3) x85_4)))) (fun _ hk => ⟨hk.1.1, hk.1.2⟩)⟩, ⟨by (try simp only [hl6_3]); (try simp only [hl6_4]); (with_reducible repeat (first | refine blk_drewN ?_ _ | refine blk_drew ?_ | refine blk_alloc ?_ _)); refine blk_far ?_ (by have h_ := Kd.R_ne HL319_0.out BK293.out (by decide); intro e_; exact h_ (by rw [e_]; rfl)) _; (with_reducible repeat (first | refine blk_drewN ?_ _ | refine blk_drew ?_ | refine blk_alloc ?_ _)); exact BK293.out⟩, ⟨by (try simp only [hl6_3]); (try simp only [hl6_4]); (with_reducible repeat (first | refine blk_drewN ?_ _ | refine blk_drew ?_ | refine blk_alloc ?_ _)); refine blk_far ?_ (by have h_ := Kd.R_ne HL319_0.out BK308.out (by decide); intro e_; exact h_ (by rw [e_]; rfl)) _; (with_reducible repeat (first | refine blk_drewN ?_ _ | refine blk_drew ?_ | refine blk_alloc ?_ _)); exact BK308.out⟩, ⟨by repeat (first | (with_reducible first | exact HB.out | apply below_alloc | apply pw_below_drewN | apply below_drew1 | refine below_set ?_ GB77.out | refine below_set ?_ GE293.out | refine below_set ?_ GE308.out) | exact HB.out)⟩⟩
 replace c43 := Bool.eq_false_iff.mpr c43
 subst c43
 have H1 : (if a0_0 = 5 then (if 0 < (l0_2.length : Int) then ((expr_match.f kj40 ((rd_T24 l0_2 0).f0) ((rd_T24 l0_2 0).f1) ((rd_T24 l0_2 0).f2) a1).bind fun t334 => (if 1 ≤ (l0_2.length : Int) then ((some (l0_2.drop 1 : List (S24))).bind fun y337 => (expr_match.l5 kj40 a1 t334 y337 (y337.length : Int) 0)) else (none))) else (none)) else (if a0_0 = 7 then (if 0 < (l0_2.length : Int) then ((expr_match.f kj40 ((rd_T24 l0_2 0).f0) ((rd_T24 l0_2 0).f1) ((rd_T24 l0_2 0).f2) a1).bind fun t350 => (expr_match.l6 kj40 (a1.size : Int) t294 t350 (a1.size : Int))) else (none)) else (if a0_0 = 8 then (if 0 < (l0_2.length : Int) then ((expr_match.f kj40 ((rd_T24 l0_2 0).f0) ((rd_T24 l0_2 0).f1) ((rd_T24 l0_2 0).f2) a1).bind fun t368 => (expr_match.l9 kj40 (a1.size : Int) t294 t368 0)) else (none)) else (some t294)))) = some r := by rw [if_neg (show ¬ (false = true) by decide)] at H; exact H
 clear H
 have H := H1
 clear H1
 by_cases c97 : a0_0 = 5
 ·rw [if_pos c97] at H
  have c97b0 : (a0_0 == 5) = true := beq_iff_eq.mpr c97
  have c97b1 : (a0_0 != 5) = false := bne_eq_false_iff_eq.mpr c97
  clear c97
  by_cases c98 : 0 < (l0_2.length : Int)
  rotate_left
  ·rw [if_neg c98] at H
   exact absurd H (by simp)
  rw [if_pos c98] at H
  have c98b0 : decide (0 < (l0_2.length : Int)) = true := decide_eq_true c98
  have c98b1 : decide (0 < l0_2.length) = true := decide_eq_true (by omega)
  clear c98
  replace H := Option.bind_eq_some_iff.mp H
  obtain ⟨t334, A990, H⟩ := H
  replace H : (if 1 ≤ (l0_2.length : Int) then ((some (l0_2.drop 1 : List (S24))).bind fun y337 => (expr_match.l5 kj40 a1 t334 y337 (y337.length : Int) 0)) else (none)) = some r := H
  have A99 := Aside0.mk A990
  clear A990
  by_cases c100 : 1 ≤ (l0_2.length : Int)
  rotate_left
  ·rw [if_neg c100] at H
   exact absurd H (by simp)
  rw [if_pos c100] at H
  have c100b0 := eq_true c100
  have c100b1 : decide (1 ≤ (l0_2.length : Int)) = true := decide_eq_true c100
  clear c100
  obtain ⟨y337, hy337⟩ : ∃ y_ : List (S24), y_ = (l0_2.drop 1) := ⟨_, rfl⟩
  replace H : (expr_match.l5 kj40 a1 t334 y337 (y337.length : Int) 0) = some r := by first | (rw [hy337]; with_reducible exact H) | (have H2_ := (Option.bind_some _ _).symm.trans H; rw [hy337]; with_reducible exact H2_) | (have H2_ := (Option.bind_some _ _).symm.trans H; with_reducible exact H2_) | with_reducible exact H | (rw [hy337]; exact H) | exact H
  have Ny337 := Aside0.mk hy337
  clear hy337
  have H' := Aside0.mk H
  clear H
  have hcz101_0 : wc.cell? ⟨gb293, 0, none⟩ = some (.int .i64 a0_0) := (blk_cell BK293.out 0).trans rfl
  have hcz101_1 : wc.cell? ⟨gb293, 1, none⟩ = some (.int .i64 a0_1) := (blk_cell BK293.out 1).trans rfl
  have hcz101_2 : wc.cell? ⟨gb293, 2, none⟩ = some (.slice A0_2 l0_2.length c0_2) := (blk_cell BK293.out 2).trans rfl
  have hfz101_0 := blk_frozen BK293.out 0
  have hfz101_1 := blk_frozen BK293.out 1
  have hfz101_2 := blk_frozen BK293.out 2
  have p333 : 0 ≤ (0 : Int) := (by omega)
  have q333 : 0 < (l0_2.length : Int) := of_decide_eq_true (by first | (with_reducible assumption) | assumption)
  obtain ⟨ad333, A333_2, c333_2, e333, hx333_0, hx333_1, hx333_2, hl333_2, hi333_2⟩ := at_T24 HR0_2.out 0 p333 q333
  cases e333
  have qi333 : (0 < l0_2.length) = True := eq_true (by omega)
  (try rw [show ((0 : Int)).toNat = 0 from rfl] at hx333_0)
  (try rw [show 0 * 3 = 0 from rfl] at hx333_0)
  (try rw [Addr.add_zero'] at hx333_0)
  (try rw [show ((0 : Int)).toNat = 0 from rfl] at hx333_1)
  (try rw [show 0 * 3 = 0 from rfl] at hx333_1)
  (try rw [Addr.add_zero'] at hx333_1)
  (try rw [show ((0 : Int)).toNat = 0 from rfl] at hx333_2)
  (try rw [show 0 * 3 = 0 from rfl] at hx333_2)
  (try rw [Addr.add_zero'] at hx333_2)
  replace hx333_0 := (HB.out.cell (World.block_lt_of_cell? w _ hx333_0)).trans hx333_0
  replace hx333_1 := (HB.out.cell (World.block_lt_of_cell? w _ hx333_1)).trans hx333_1
  replace hx333_2 := (HB.out.cell (World.block_lt_of_cell? w _ hx333_2)).trans hx333_2
  have HR333_2 := Aside0.mk hi333_2
  have HC333_2 := Aside0.mk hl333_2
  clear hi333_2 hl333_2
  replace p333 := eq_true p333
  replace q333 := eq_true q333
  go_wp2_with (first | ((with_reducible refine gate_callee (f := 60) rfl ?_); (fail_if_success (have chk_ := HO336)); refine goesL_ (some 150) rfl rfl Try.func60 (by kernel_rfl) rfl #[.agg #[.int .i64 ((rd_T24 l0_2 0).f0), .int .i64 ((rd_T24 l0_2 0).f1), .slice A333_2 ((rd_T24 l0_2 0).f2).length c333_2], .string a1] rfl (by (try simp only [List.map_toArray, List.map_cons, List.map_nil]); first | done | rfl | (simp only [List.length_drop, List.length_take]; rfl) | (simp only [Int.ofNat_lt, Int.ofNat_le]; rfl)) ?_; (with_reducible refine (ih kj40 (by have := HJ40.out; omega) ((rd_T24 l0_2 0).f0) ((rd_T24 l0_2 0).f1) _ _ ((rd_T24 l0_2 0).f2) a1 t334 _ ?side1 ?side2 A99.out).mono ?_); (case side1 => repeat (first | exact (Kd.C_below HR333_2.out HB.out) | (with_reducible refine Kd.C_alloc ?_ _) | (with_reducible refine Kd.C_drewN ?_ _) | (with_reducible refine Kd.C_drew ?_))); (case side2 => exact HC333_2.out); rintro e w102 ⟨v335, rfl, ho0, hb⟩; refine ⟨_, rfl, ?_⟩; obtain ⟨hs380, hs380q⟩ := FootX.size_of hb; have HQhs380 := Aside0.mk hs380q; clear hs380q; have n0_ := Aside0.mk (Kd.S_elder' (FootX.S_lt (by (with_reducible repeat (first | apply Kd.S_alloc | apply Kd.S_drewN | apply Kd.S_drew)); exact HO_6.out) HQhs380.out) (Kd.S_base ho0) hb); have n1_ := Aside0.mk (Kd.S_lower (Kd.S_new' (FootX.S_ge ho0 HQhs380.out) (Kd.S_lt (by (with_reducible repeat (first | apply Kd.S_alloc | apply Kd.S_drewN | apply Kd.S_drew)); exact HO_6.out))) (below_size (bB))); have n2_ := Aside0.mk (blk_below (g := gb293) (o := .cells #[.int .i64 a0_0, .int .i64 a0_1, .slice (some ad333) l0_2.length c0_2] 24 (0, 0)) (bK) hb); have n3_ := Aside0.mk (below_step (bB) hb); clear HO_6; clear BK293; clear HB; have HO_6 := n0_; have HO336 := n1_; have BK293 := n2_; have HB := n3_; clear n0_ n1_ n2_ n3_; (try clear hb); (try clear hb2); (try clear hk); (try clear hi); (try clear ho0); have hcz103_0 : w102.cell? ⟨gb293, 0, none⟩ = some (.int .i64 a0_0) := (blk_cell BK293.out 0).trans rfl; have hcz103_1 : w102.cell? ⟨gb293, 1, none⟩ = some (.int .i64 a0_1) := (blk_cell BK293.out 1).trans rfl; have hcz103_2 : w102.cell? ⟨gb293, 2, none⟩ = some (.slice (some ad333) l0_2.length c0_2) := (blk_cell BK293.out 2).trans rfl; have hfz103_0 := blk_frozen BK293.out 0; have hfz103_1 := blk_frozen BK293.out 1; have hfz103_2 := blk_frozen BK293.out 2; have q104 : (1 : Int) ≤ ((l0_2.length : Int) : Int) := of_decide_eq_true (by first | (with_reducible assumption) | assumption); obtain ⟨i0104, hi0104, _, hsz104, _⟩ := info_parts info24; have hroom104 : l0_2.length ≤ c0_2 := HC0_2.out; have hC104 : Kd.C k24 _ (some ad333) l0_2.length l0_2 := HR0_2.out; have hcut104 := cut_from (P := Try.prog) 22 24 .i64 Try.underlying22 hi0104 3 hsz104 (some ad333) l0_2.length c0_2 1 (by omega) q104; have hr104 := Kd.C_drop (m := (1 : Int).toNat) (c := c0_2) hC104 (by omega) hroom104; obtain ⟨A104, hA104⟩ : ∃ A1, A1 = (if c0_2 = (1 : Int).toNat then (some ad333) else ((some ad333) : Option Addr).map (·.add ((1 : Int).toNat * 3))) := ⟨_, rfl⟩; obtain ⟨c104, hc104⟩ : ∃ c1, c1 = c0_2 - (1 : Int).toNat := ⟨_, rfl⟩; have hy104 : y337.length = l0_2.length - (1 : Int).toNat := (by rw [Ny337.out, List.length_drop] <;> omega); rw [show (l0_2).drop (1 : Int).toNat = y337 from Ny337.out.symm] at hr104; replace hr104 : Kd.C k24 _ A104 y337.length y337 := (by rw [hA104]; exact hr104); rw [← hy104, ← hA104, ← hc104] at hcut104; have HR340 := Aside0.mk hr104; have HC340 := Aside0.mk (show y337.length ≤ c104 from by rw [hy104, hc104]; exact Nat.sub_le_sub_right hroom104 _); clear hr104 hC104 hroom104 hi0104 hsz104 hc104; have KY104 := Aside0.mk hy104; have KA104 := Aside0.mk hA104; clear hy104 hA104; replace q104 := eq_true q104))
  go_loopg [6, 155] kj40 (fun kq v6 v155 w' => ∃ (x6_2 : List (List Int)) (x155_2 : Int), v155 = .int .i64 x155_2 ∧ Aside0 (expr_match.l5 kq a1 x6_2 y337 (y337.length : Int) x155_2 = some r) ∧ Aside0 (kq ≤ kj40) ∧ Aside0 (Kd.S (Kd.slice 71 (Kd.int .u64)) 70 w' w.heap.size (fun _ => True) v6 x6_2) ∧ Aside0 (w'.heap[gb293]? = some (.cells #[.int .i64 a0_0, .int .i64 a0_1, (.slice (some ad333) l0_2.length c0_2)] 24 (0, 0))) ∧ Aside0 (Below w.heap.size w w'))
  case atStart => exact ⟨(t334), (0), (by first | rfl | (simp; done) | (simp [*]; done)), H', ⟨Nat.le_refl _⟩, ⟨by (with_reducible repeat (first | apply Kd.S_alloc | apply Kd.S_drewN | apply Kd.S_drew)); exact Kd.S_mono HO336.out (fun _ hk => trivial)⟩, ⟨bK⟩, ⟨bB⟩⟩
  clear H'
  try clear c1
  try clear c8
  try clear c43
  try clear c97
  try clear c97b0
  try clear c97b1
  try clear c98
  try clear c98b0
  try clear c98b1
  try clear c100
  try clear c100b0
  try clear c100b1
  try clear c104
  try clear q104
  try clear hcz101_0
  try clear hcz101_1
  try clear hcz101_2
  try clear hcz103_0
  try clear hcz103_1
  try clear hcz103_2
  try clear hfz101_0
  try clear hfz101_1
  try clear hfz101_2
  try clear hfz103_0
  try clear hfz103_1
  try clear hfz103_2
  try clear hx333_0
  try clear hx333_1
  try clear hx333_2
  try clear p333
  try clear q104
  try clear q333
  obtain ⟨x6_2, x155_2, rfl, HA, HK2, HO_6, BK293, HB⟩ := hrel
  cases gk with
  | zero => exact absurd HA.out (by simp [expr_match.l5])
  | succ k2 => ?_
  have H := HA.out
  clear HA
  simp only [expr_match.l5] at H
  by_cases c105 : x155_2 < (y337.length : Int)
  rotate_left
  ·rw [if_neg c105] at H
   have c105b0 : decide (x155_2 < (y337.length : Int)) = false := decide_eq_false c105
   clear c105
   obtain rfl := Option.some.inj H
   go_wp2
   go_ret
   exact ⟨_, by first | rfl | (simp [errW_none, errW_some] <;> rfl) | (simp [*, errW_none, errW_some] <;> rfl), by (with_reducible repeat (first | apply Kd.S_alloc | apply Kd.S_drewN | apply Kd.S_drew)); exact HO_6.out, bB⟩
  rw [if_pos c105] at H
  have c105b0 : decide (x155_2 < (y337.length : Int)) = true := decide_eq_true c105
  clear c105
  by_cases c106 : 0 ≤ x155_2
  rotate_left
  ·rw [if_neg c106] at H
   exact absurd H (by simp)
  rw [if_pos c106] at H
  have c106b0 : decide (0 ≤ x155_2) = true := decide_eq_true c106
  clear c106
  by_cases c107 : x155_2 < (y337.length : Int)
  rotate_left
  ·rw [if_neg c107] at H
   exact absurd H (by simp)
  rw [if_pos c107] at H
  have c107b0 : decide (x155_2 < (y337.length : Int)) = true := decide_eq_true c107
  clear c107
  replace H := Option.bind_eq_some_iff.mp H
  obtain ⟨t343, A1080, H⟩ := H
  replace H : ((expr_spans_then.f k2 x6_2 t343).bind fun t346 => (expr_match.l5 k2 a1 t346 y337 (y337.length : Int) (wrap64 (x155_2 + 1)))) = some r := H
  have A108 := Aside0.mk A1080
  clear A1080
  replace H := Option.bind_eq_some_iff.mp H
  obtain ⟨t346, A1090, H⟩ := H
  replace H : (expr_match.l5 k2 a1 t346 y337 (y337.length : Int) (wrap64 (x155_2 + 1))) = some r := H
  have A109 := Aside0.mk A1090
  clear A1090
  have H' := Aside0.mk H
  clear H
  have p341 : 0 ≤ (x155_2 : Int) := of_decide_eq_true (by first | (with_reducible assumption) | assumption)
  have q341 : x155_2 < (y337.length : Int) := of_decide_eq_true (by first | (with_reducible assumption) | assumption)
  obtain ⟨ad341, A341_2, c341_2, e341, hx341_0, hx341_1, hx341_2, hl341_2, hi341_2⟩ := at_T24 HR340.out x155_2 p341 q341
  cases e341
  replace hx341_0 := (HB.out.cell (World.block_lt_of_cell? w _ hx341_0)).trans hx341_0
  replace hx341_1 := (HB.out.cell (World.block_lt_of_cell? w _ hx341_1)).trans hx341_1
  replace hx341_2 := (HB.out.cell (World.block_lt_of_cell? w _ hx341_2)).trans hx341_2
  have HR341_2 := Aside0.mk hi341_2
  have HC341_2 := Aside0.mk hl341_2
  clear hi341_2 hl341_2
  replace p341 := eq_true p341
  replace q341 := eq_true q341
  go_wp2_with (first | ((with_reducible refine gate_dst (N := 15) rfl ?_); refine box_event ?hg (N := 15) ?hd (cs := #[.int .i64 0, .int .i64 0, .slice none 0 0]) (t := 24) ?hr ?_; (case hd => rfl); (case hg => rfl); (case hr => first | (go_simp; done) | (go_simp; rfl)); intro gb342 hg w110 hbox hb; have n0_ := Aside0.mk (Kd.S_below (by (with_reducible repeat (first | apply Kd.S_alloc | apply Kd.S_drewN | apply Kd.S_drew)); exact HO_6.out) hb); have n1_ := Aside0.mk (blk_below (g := gb293) (o := .cells #[.int .i64 a0_0, .int .i64 a0_1, .slice (some ad333) l0_2.length c0_2] 24 (0, 0)) (bK) hb); have n2_ := Aside0.mk (below_step (bB) hb); have n3_ := Aside0.mk (hbox); have n4_ := Aside0.mk ((by rw [hg]; exact (below_size (bB)) : w.heap.size ≤ gb342)); have n5_ := Aside0.mk ((by rw [hg]; exact (below_size (bB)) : w.heap.size ≤ gb342)); have n6_ := Aside0.mk ((by rw [hg]; exact Nat.ne_of_lt (blk_lt (g := gb293) (o := .cells #[.int .i64 a0_0, .int .i64 a0_1, .slice (some ad333) l0_2.length c0_2] 24 (0, 0)) (bK)) : gb293 ≠ gb342)); have n7_ := Aside0.mk ((by rw [hg]; exact Nat.ne_of_gt (blk_lt (g := gb293) (o := .cells #[.int .i64 a0_0, .int .i64 a0_1, .slice (some ad333) l0_2.length c0_2] 24 (0, 0)) (bK)) : gb342 ≠ gb293)); clear HO_6; clear BK293; clear HB; have HO_6 := n0_; have BK293 := n1_; have HB := n2_; have BK342 := n3_; have GW342 := n4_; have GE342 := n5_; have NB293_342 := n6_; have NB342_293 := n7_; clear n0_ n1_ n2_ n3_ n4_ n5_ n6_ n7_; clear hb hbox hg; have hnb111 := NB342_293.out; have hnc111 := NB293_342.out; have hcz112_0 : w110.cell? ⟨gb342, 0, none⟩ = some (.int .i64 0) := (blk_cell BK342.out 0).trans rfl; have hcz112_1 : w110.cell? ⟨gb342, 1, none⟩ = some (.int .i64 0) := (blk_cell BK342.out 1).trans rfl; have hcz112_2 : w110.cell? ⟨gb342, 2, none⟩ = some (.slice none 0 0) := (blk_cell BK342.out 2).trans rfl; have hfz112_0 := blk_frozen BK342.out 0; have hfz112_1 := blk_frozen BK342.out 1; have hfz112_2 := blk_frozen BK342.out 2) | ((with_reducible refine gate_callee (f := 60) rfl ?_); (fail_if_success (have chk_ := HO345)); refine goesL_ (some 162) rfl rfl Try.func60 (by kernel_rfl) rfl #[.agg #[.int .i64 ((rd_T24 y337 x155_2).f0), .int .i64 ((rd_T24 y337 x155_2).f1), .slice A341_2 ((rd_T24 y337 x155_2).f2).length c341_2], .string a1] rfl (by (try simp only [List.map_toArray, List.map_cons, List.map_nil]); first | done | rfl | (simp only [List.length_drop, List.length_take]; rfl) | (simp only [Int.ofNat_lt, Int.ofNat_le]; rfl)) ?_; (with_reducible refine (ih k2 (by have := HJ40.out; have := HK2.out; omega) ((rd_T24 y337 x155_2).f0) ((rd_T24 y337 x155_2).f1) _ _ ((rd_T24 y337 x155_2).f2) a1 t343 _ ?side1 ?side2 A108.out).mono ?_); (case side1 => exact Kd.C_below HR341_2.out (bB)); (case side2 => exact HC341_2.out); rintro e w113 ⟨v344, rfl, ho0, hb⟩; refine ⟨_, rfl, ?_⟩; obtain ⟨hs381, hs381q⟩ := FootX.size_of hb; have HQhs381 := Aside0.mk hs381q; clear hs381q; have n0_ := Aside0.mk (Kd.S_elder' (FootX.S_lt (by (with_reducible repeat (first | apply Kd.S_alloc | apply Kd.S_drewN | apply Kd.S_drew)); exact (Kd.S_mono (Kd.S_far (p := ⟨gb342, 2, none⟩) (Kd.S_far (p := ⟨gb342, 1, none⟩) (Kd.S_far (p := ⟨gb342, 0, none⟩) (Kd.S_types HO_6.out BK342.out (by decide)) (fun _ hk => hk.2) (.int .i64 ((rd_T24 y337 x155_2).f0))) (fun _ hk => hk.2) (.int .i64 ((rd_T24 y337 x155_2).f1))) (fun _ hk => hk.2) (.slice A341_2 ((rd_T24 y337 x155_2).f2).length c341_2)) (fun _ h_ => h_.1))) HQhs381.out) (Kd.S_base ho0) hb); have n1_ := Aside0.mk (Kd.S_lower (Kd.S_new' (FootX.S_ge ho0 HQhs381.out) (Kd.S_lt (by (with_reducible repeat (first | apply Kd.S_alloc | apply Kd.S_drewN | apply Kd.S_drew)); exact (Kd.S_mono (Kd.S_far (p := ⟨gb342, 2, none⟩) (Kd.S_far (p := ⟨gb342, 1, none⟩) (Kd.S_far (p := ⟨gb342, 0, none⟩) (Kd.S_types HO_6.out BK342.out (by decide)) (fun _ hk => hk.2) (.int .i64 ((rd_T24 y337 x155_2).f0))) (fun _ hk => hk.2) (.int .i64 ((rd_T24 y337 x155_2).f1))) (fun _ hk => hk.2) (.slice A341_2 ((rd_T24 y337 x155_2).f2).length c341_2)) (fun _ h_ => h_.1))))) (below_size (bB))); have n2_ := Aside0.mk (blk_below (g := gb293) (o := .cells #[.int .i64 a0_0, .int .i64 a0_1, .slice (some ad333) l0_2.length c0_2] 24 (0, 0)) (by (with_reducible repeat (first | refine blk_drewN ?_ _ | refine blk_drew ?_ | refine blk_alloc ?_ _)); refine blk_far ?_ NB293_342.out _; (with_reducible repeat (first | refine blk_drewN ?_ _ | refine blk_drew ?_ | refine blk_alloc ?_ _)); refine blk_far ?_ NB293_342.out _; (with_reducible repeat (first | refine blk_drewN ?_ _ | refine blk_drew ?_ | refine blk_alloc ?_ _)); refine blk_far ?_ NB293_342.out _; (with_reducible repeat (first | refine blk_drewN ?_ _ | refine blk_drew ?_ | refine blk_alloc ?_ _)); exact BK293.out) hb); have n3_ := Aside0.mk (blk_below (g := gb342) (o := .cells #[.int .i64 ((rd_T24 y337 x155_2).f0), .int .i64 ((rd_T24 y337 x155_2).f1), .slice A341_2 ((rd_T24 y337 x155_2).f2).length c341_2] 24 (0, 0)) (by (with_reducible repeat (first | refine blk_drewN ?_ _ | refine blk_drew ?_ | refine blk_alloc ?_ _)); refine blk_put (cs := #[.int .i64 ((rd_T24 y337 x155_2).f0), .int .i64 ((rd_T24 y337 x155_2).f1), .slice none 0 0]) ?_ 2 _ rfl; (with_reducible repeat (first | refine blk_drewN ?_ _ | refine blk_drew ?_ | refine blk_alloc ?_ _)); refine blk_put (cs := #[.int .i64 ((rd_T24 y337 x155_2).f0), .int .i64 0, .slice none 0 0]) ?_ 1 _ rfl; (with_reducible repeat (first | refine blk_drewN ?_ _ | refine blk_drew ?_ | refine blk_alloc ?_ _)); refine blk_put (cs := #[.int .i64 0, .int .i64 0, .slice none 0 0]) ?_ 0 _ rfl; (with_reducible repeat (first | refine blk_drewN ?_ _ | refine blk_drew ?_ | refine blk_alloc ?_ _)); exact BK342.out) hb); have n4_ := Aside0.mk (below_step (bB) hb); clear HO_6; clear BK293; clear BK342; clear HB; have HO_6 := n0_; have HO345 := n1_; have BK293 := n2_; have BK342 := n3_; have HB := n4_; clear n0_ n1_ n2_ n3_ n4_; (try clear hb); (try clear hb2); (try clear hk); (try clear hi); (try clear ho0); obtain ⟨Ao114, co114, eo114⟩ := Kd.S_slice HO_6.out; subst eo114; obtain ⟨Ao115, co115, eo115⟩ := Kd.S_slice HO345.out; subst eo115) | ((with_reducible refine gate_callee (f := 76) rfl ?_); (fail_if_success (have chk_ := HO348)); refine goesL_ (some 163) rfl rfl Try.func76 (by kernel_rfl) rfl #[.slice Ao114 x6_2.length co114, .slice Ao115 t343.length co115] rfl (by (try simp only [List.map_toArray, List.map_cons, List.map_nil]); first | done | rfl | (simp only [List.length_drop, List.length_take]; rfl) | (simp only [Int.ofNat_lt, Int.ofNat_le]; rfl)) ?_; (with_reducible refine (expr_spans_then.calls k2 _ _ x6_2 _ _ t343 t346 _ ?side1 ?side2 ?side3 ?side4 A109.out).mono ?_); (case side1 => repeat (first | exact (Kd.S_reads' HO_6.out).2.2 | (with_reducible refine Kd.C_alloc ?_ _) | (with_reducible refine Kd.C_drewN ?_ _) | (with_reducible refine Kd.C_drew ?_))); (case side2 => exact (Kd.S_reads' HO_6.out).2.1); (case side3 => repeat (first | exact (Kd.S_reads' HO345.out).2.2 | (with_reducible refine Kd.C_alloc ?_ _) | (with_reducible refine Kd.C_drewN ?_ _) | (with_reducible refine Kd.C_drew ?_))); (case side4 => exact (Kd.S_reads' HO345.out).2.1); rintro e w116 ⟨v347, rfl, ho0, hb⟩; refine ⟨_, rfl, ?_⟩; obtain ⟨hs382, hs382q⟩ := FootX.size_of hb; have HQhs382 := Aside0.mk hs382q; clear hs382q; have n0_ := Aside0.mk (Kd.S_elder' (FootX.S_lt (by (with_reducible repeat (first | apply Kd.S_alloc | apply Kd.S_drewN | apply Kd.S_drew)); exact HO_6.out) HQhs382.out) (Kd.S_base ho0) hb); have n1_ := Aside0.mk (Kd.S_elder' (FootX.S_lt (by (with_reducible repeat (first | apply Kd.S_alloc | apply Kd.S_drewN | apply Kd.S_drew)); exact HO345.out) HQhs382.out) (Kd.S_base ho0) hb); have n2_ := Aside0.mk (Kd.S_lower (Kd.S_new' (Kd.S_new' (FootX.S_ge ho0 HQhs382.out) (Kd.S_lt (by (with_reducible repeat (first | apply Kd.S_alloc | apply Kd.S_drewN | apply Kd.S_drew)); exact HO_6.out))) (Kd.S_lt (by (with_reducible repeat (first | apply Kd.S_alloc | apply Kd.S_drewN | apply Kd.S_drew)); exact HO345.out))) (below_size (bB))); have n3_ := Aside0.mk (blk_below (g := gb293) (o := .cells #[.int .i64 a0_0, .int .i64 a0_1, .slice (some ad333) l0_2.length c0_2] 24 (0, 0)) (bK) hb); have n4_ := Aside0.mk (blk_below (g := gb342) (o := .cells #[.int .i64 ((rd_T24 y337 x155_2).f0), .int .i64 ((rd_T24 y337 x155_2).f1), .slice A341_2 ((rd_T24 y337 x155_2).f2).length c341_2] 24 (0, 0)) (bK) hb); have n5_ := Aside0.mk (below_step (bB) hb); clear HO_6; clear HO345; clear BK293; clear BK342; clear HB; have HO_6 := n0_; have HO345 := n1_; have HO348 := n2_; have BK293 := n3_; have BK342 := n4_; have HB := n5_; clear n0_ n1_ n2_ n3_ n4_ n5_; (try clear hb); (try clear hb2); (try clear hk); (try clear hi); (try clear ho0)))
  (first | go_roundg k2 | ((simp only [add_plain] at *); go_roundg k2))
  case measure => have := HJ40.out; have := HK2.out; omega
  case rel => exact ⟨(t346), (wrap64 (x155_2 + 1)), (by first | rfl | (simp; done) | (simp [*]; done)), H', ⟨by have := HJ40.out; have := HK2.out; omega⟩, ⟨by (with_reducible repeat (first | apply Kd.S_alloc | apply Kd.S_drewN | apply Kd.S_drew)); exact Kd.S_mono HO348.out (fun _ hk => trivial)⟩, ⟨bK⟩, ⟨bB⟩⟩
 rw [if_neg c97] at H
 have c97b0 : (a0_0 == 5) = false := beq_eq_false_iff_ne.mpr c97
 have c97b1 : (a0_0 != 5) = true := bne_iff_ne.mpr c97
 by_cases c117 : a0_0 = 7
 rotate_left
 ·rw [if_neg c117] at H
  have c117b0 : (a0_0 == 7) = false := beq_eq_false_iff_ne.mpr c117
  have c117b1 : (a0_0 != 7) = true := bne_iff_ne.mpr c117
  by_cases c154 : a0_0 = 8
  rotate_left
  ·rw [if_neg c154] at H
   have c154b0 : (a0_0 == 8) = false := beq_eq_false_iff_ne.mpr c154
   have c154b1 : (a0_0 != 8) = true := bne_iff_ne.mpr c154
   obtain rfl := Option.some.inj H
   go_wp2
   go_ret
   exact ⟨_, by first | rfl | (simp [errW_none, errW_some] <;> rfl) | (simp [*, errW_none, errW_some] <;> rfl), by (with_reducible repeat (first | apply Kd.S_alloc | apply Kd.S_drewN | apply Kd.S_drew)); exact HO_6.out, bB⟩
  rw [if_pos c154] at H
  have c154b0 : (a0_0 == 8) = true := beq_iff_eq.mpr c154
  have c154b1 : (a0_0 != 8) = false := bne_eq_false_iff_eq.mpr c154
  clear c154
  by_cases c155 : 0 < (l0_2.length : Int)
  rotate_left
  ·rw [if_neg c155] at H
   exact absurd H (by simp)
  rw [if_pos c155] at H
  have c155b0 : decide (0 < (l0_2.length : Int)) = true := decide_eq_true c155
  have c155b1 : decide (0 < l0_2.length) = true := decide_eq_true (by omega)
  clear c155
  replace H := Option.bind_eq_some_iff.mp H
  obtain ⟨t368, A1560, H⟩ := H
  replace H : (expr_match.l9 kj40 (a1.size : Int) t294 t368 0) = some r := H
  have A156 := Aside0.mk A1560
  clear A1560
  have H' := Aside0.mk H
  clear H
  have hcz157_0 : wc.cell? ⟨gb293, 0, none⟩ = some (.int .i64 a0_0) := (blk_cell BK293.out 0).trans rfl
  have hcz157_1 : wc.cell? ⟨gb293, 1, none⟩ = some (.int .i64 a0_1) := (blk_cell BK293.out 1).trans rfl
  have hcz157_2 : wc.cell? ⟨gb293, 2, none⟩ = some (.slice A0_2 l0_2.length c0_2) := (blk_cell BK293.out 2).trans rfl
  have hfz157_0 := blk_frozen BK293.out 0
  have hfz157_1 := blk_frozen BK293.out 1
  have hfz157_2 := blk_frozen BK293.out 2
  have p367 : 0 ≤ (0 : Int) := (by omega)
  have q367 : 0 < (l0_2.length : Int) := of_decide_eq_true (by first | (with_reducible assumption) | assumption)
  obtain ⟨ad367, A367_2, c367_2, e367, hx367_0, hx367_1, hx367_2, hl367_2, hi367_2⟩ := at_T24 HR0_2.out 0 p367 q367
  cases e367
  have qi367 : (0 < l0_2.length) = True := eq_true (by omega)
  (try rw [show ((0 : Int)).toNat = 0 from rfl] at hx367_0)
  (try rw [show 0 * 3 = 0 from rfl] at hx367_0)
  (try rw [Addr.add_zero'] at hx367_0)
  (try rw [show ((0 : Int)).toNat = 0 from rfl] at hx367_1)
  (try rw [show 0 * 3 = 0 from rfl] at hx367_1)
  (try rw [Addr.add_zero'] at hx367_1)
  (try rw [show ((0 : Int)).toNat = 0 from rfl] at hx367_2)
  (try rw [show 0 * 3 = 0 from rfl] at hx367_2)
  (try rw [Addr.add_zero'] at hx367_2)
  replace hx367_0 := (HB.out.cell (World.block_lt_of_cell? w _ hx367_0)).trans hx367_0
  replace hx367_1 := (HB.out.cell (World.block_lt_of_cell? w _ hx367_1)).trans hx367_1
  replace hx367_2 := (HB.out.cell (World.block_lt_of_cell? w _ hx367_2)).trans hx367_2
  have HR367_2 := Aside0.mk hi367_2
  have HC367_2 := Aside0.mk hl367_2
  clear hi367_2 hl367_2
  replace p367 := eq_true p367
  replace q367 := eq_true q367
  go_wp2_with (first | ((with_reducible refine gate_callee (f := 60) rfl ?_); (fail_if_success (have chk_ := HO370)); refine goesL_ (some 225) rfl rfl Try.func60 (by kernel_rfl) rfl #[.agg #[.int .i64 ((rd_T24 l0_2 0).f0), .int .i64 ((rd_T24 l0_2 0).f1), .slice A367_2 ((rd_T24 l0_2 0).f2).length c367_2], .string a1] rfl (by (try simp only [List.map_toArray, List.map_cons, List.map_nil]); first | done | rfl | (simp only [List.length_drop, List.length_take]; rfl) | (simp only [Int.ofNat_lt, Int.ofNat_le]; rfl)) ?_; (with_reducible refine (ih kj40 (by have := HJ40.out; omega) ((rd_T24 l0_2 0).f0) ((rd_T24 l0_2 0).f1) _ _ ((rd_T24 l0_2 0).f2) a1 t368 _ ?side1 ?side2 A156.out).mono ?_); (case side1 => repeat (first | exact (Kd.C_below HR367_2.out HB.out) | (with_reducible refine Kd.C_alloc ?_ _) | (with_reducible refine Kd.C_drewN ?_ _) | (with_reducible refine Kd.C_drew ?_))); (case side2 => exact HC367_2.out); rintro e w158 ⟨v369, rfl, ho0, hb⟩; refine ⟨_, rfl, ?_⟩; obtain ⟨hs385, hs385q⟩ := FootX.size_of hb; have HQhs385 := Aside0.mk hs385q; clear hs385q; have n0_ := Aside0.mk (Kd.S_elder' (FootX.S_lt (by (with_reducible repeat (first | apply Kd.S_alloc | apply Kd.S_drewN | apply Kd.S_drew)); exact HO_6.out) HQhs385.out) (Kd.S_base ho0) hb); have n1_ := Aside0.mk (Kd.S_lower (Kd.S_new' (FootX.S_ge ho0 HQhs385.out) (Kd.S_lt (by (with_reducible repeat (first | apply Kd.S_alloc | apply Kd.S_drewN | apply Kd.S_drew)); exact HO_6.out))) (below_size (bB))); have n2_ := Aside0.mk (blk_below (g := gb293) (o := .cells #[.int .i64 a0_0, .int .i64 a0_1, .slice (some ad367) l0_2.length c0_2] 24 (0, 0)) (bK) hb); have n3_ := Aside0.mk (below_step (bB) hb); clear HO_6; clear BK293; clear HB; have HO_6 := n0_; have HO370 := n1_; have BK293 := n2_; have HB := n3_; clear n0_ n1_ n2_ n3_; (try clear hb); (try clear hb2); (try clear hk); (try clear hi); (try clear ho0)))
  go_loopg [21] kj40 (fun kq v21 w' => ∃ (x6_2 : List (List Int)) (x21_2 : Int), v21 = .int .i64 x21_2 ∧ Aside0 (expr_match.l9 kq (a1.size : Int) x6_2 t368 x21_2 = some r) ∧ Aside0 (kq ≤ kj40) ∧ Aside0 (Kd.S (Kd.slice 71 (Kd.int .u64)) 70 w' w.heap.size (fun k_ => some k_ ≠ (v369 : Value).ownBlock ∧ k_ < hs385) v295 x6_2) ∧ Aside0 (Kd.S (Kd.slice 71 (Kd.int .u64)) 70 w' w.heap.size (fun k_ => some k_ ≠ (v295 : Value).ownBlock ∧ hs385 ≤ k_) v369 t368) ∧ Aside0 (w'.heap[gb293]? = some (.cells #[.int .i64 a0_0, .int .i64 a0_1, (.slice (some ad367) l0_2.length c0_2)] 24 (0, 0))) ∧ Aside0 (Below w.heap.size w w'))
  case atStart => exact ⟨(t294), (0), (by first | rfl | (simp; done) | (simp [*]; done)), H', ⟨Nat.le_refl _⟩, ⟨by (with_reducible repeat (first | apply Kd.S_alloc | apply Kd.S_drewN | apply Kd.S_drew)); exact Kd.S_mono HO_6.out (fun _ hk => ⟨hk.2, hk.1.2⟩)⟩, ⟨by (with_reducible repeat (first | apply Kd.S_alloc | apply Kd.S_drewN | apply Kd.S_drew)); exact Kd.S_mono HO370.out (fun _ hk => ⟨hk.2, hk.1⟩)⟩, ⟨bK⟩, ⟨bB⟩⟩
  clear H'
  try clear c8
  try clear c97
  try clear c97b0
  try clear c97b1
  try clear c117
  try clear c117b0
  try clear c117b1
  try clear c154
  try clear c154b0
  try clear c154b1
  try clear c155
  try clear c155b0
  try clear c155b1
  try clear hcz157_0
  try clear hcz157_1
  try clear hcz157_2
  try clear hfz157_0
  try clear hfz157_1
  try clear hfz157_2
  try clear hx367_0
  try clear hx367_1
  try clear hx367_2
  try clear p367
  try clear q367
  obtain ⟨x6_2, x21_2, rfl, HA, HK2, HO_6, HO_20, BK293, HB⟩ := hrel
  cases gk with
  | zero => exact absurd HA.out (by simp [expr_match.l9])
  | succ k2 => ?_
  have H := HA.out
  clear HA
  simp only [expr_match.l9] at H
  by_cases c159 : x21_2 ≤ (a1.size : Int)
  rotate_left
  ·rw [if_neg c159] at H
   have c159b0 : decide (x21_2 ≤ (a1.size : Int)) = false := decide_eq_false c159
   clear c159
   obtain rfl := Option.some.inj H
   go_wp2
   go_ret
   exact ⟨_, by first | rfl | (simp [errW_none, errW_some] <;> rfl) | (simp [*, errW_none, errW_some] <;> rfl), by (with_reducible repeat (first | apply Kd.S_alloc | apply Kd.S_drewN | apply Kd.S_drew)); exact Kd.S_mono HO_6.out (fun _ hk => trivial), bB⟩
  rw [if_pos c159] at H
  have c159b0 : decide (x21_2 ≤ (a1.size : Int)) = true := decide_eq_true c159
  clear c159
  have H' := Aside0.mk H
  clear H
  go_wp2
  go_loopg [22] k2 (fun kq v22 w' => ∃ (x6_3 : List (List Int)) (x22_3 : Int), v22 = .int .i64 x22_3 ∧ Aside0 (expr_match.l10 kq (a1.size : Int) x6_3 t368 x21_2 x22_3 = some r) ∧ Aside0 (kq ≤ k2) ∧ Aside0 (Kd.S (Kd.slice 71 (Kd.int .u64)) 70 w' w.heap.size (fun k_ => some k_ ≠ (v369 : Value).ownBlock ∧ k_ < hs385) v295 x6_3) ∧ Aside0 (Kd.S (Kd.slice 71 (Kd.int .u64)) 70 w' w.heap.size (fun k_ => some k_ ≠ (v295 : Value).ownBlock ∧ hs385 ≤ k_) v369 t368) ∧ Aside0 (w'.heap[gb293]? = some (.cells #[.int .i64 a0_0, .int .i64 a0_1, (.slice (some ad367) l0_2.length c0_2)] 24 (0, 0))) ∧ Aside0 (Below w.heap.size w w'))
  case atStart => exact ⟨(x6_2), (x21_2), (by first | rfl | (simp; done) | (simp [*]; done)), H', ⟨Nat.le_refl _⟩, ⟨by (with_reducible repeat (first | apply Kd.S_alloc | apply Kd.S_drewN | apply Kd.S_drew)); exact HO_6.out⟩, ⟨by (with_reducible repeat (first | apply Kd.S_alloc | apply Kd.S_drewN | apply Kd.S_drew)); exact HO_20.out⟩, ⟨bK⟩, ⟨bB⟩⟩
  clear H'
  try clear c8
  try clear c97
  try clear c97b0
  try clear c97b1
  try clear c117
  try clear c117b0
  try clear c117b1
  try clear c154
  try clear c154b0
  try clear c154b1
  try clear c155
  try clear c155b0
  try clear c155b1
  try clear c159
  try clear c159b0
  try clear hcz157_0
  try clear hcz157_1
  try clear hcz157_2
  try clear hfz157_0
  try clear hfz157_1
  try clear hfz157_2
  try clear hx367_0
  try clear hx367_1
  try clear hx367_2
  try clear p367
  try clear q367
  obtain ⟨x6_3, x22_3, rfl, HA, HK3, HO_6, HO_20, BK293, HB⟩ := hrel
  cases gk with
  | zero => exact absurd HA.out (by simp [expr_match.l10])
  | succ k3 => ?_
  have H := HA.out
  clear HA
  simp only [expr_match.l10] at H
  by_cases c160 : x22_3 ≤ (a1.size : Int)
  rotate_left
  ·rw [if_neg c160] at H
   have c160b0 : decide (x22_3 ≤ (a1.size : Int)) = false := decide_eq_false c160
   clear c160
   have H' := Aside0.mk H
   clear H
   go_wp2
   (first | go_roundg k3 | ((simp only [add_plain] at *); go_roundg k3))
   case measure => have := HJ40.out; have := HK2.out; have := HK3.out; omega
   case rel => exact ⟨(x6_3), (wrap64 (x21_2 + 1)), (by first | rfl | (simp; done) | (simp [*]; done)), H', ⟨by have := HJ40.out; have := HK2.out; have := HK3.out; omega⟩, ⟨by (with_reducible repeat (first | apply Kd.S_alloc | apply Kd.S_drewN | apply Kd.S_drew)); exact HO_6.out⟩, ⟨by (with_reducible repeat (first | apply Kd.S_alloc | apply Kd.S_drewN | apply Kd.S_drew)); exact HO_20.out⟩, ⟨bK⟩, ⟨bB⟩⟩
  rw [if_pos c160] at H
  have c160b0 : decide (x22_3 ≤ (a1.size : Int)) = true := decide_eq_true c160
  clear c160
  replace H := Option.bind_eq_some_iff.mp H
  obtain ⟨t371, A1610, H⟩ := H
  replace H : (if t371 = true then (expr_match.l10 k3 (a1.size : Int) x6_3 t368 x21_2 (wrap64 (x22_3 + 1))) else (if 0 ≤ x21_2 then (if x21_2 < (x6_3.length : Int) then (if 0 ≤ (wrap64 (Int.tdiv x22_3 64)) then (if (wrap64 (Int.tdiv x22_3 64)) < ((rd_L4 x6_3 x21_2).length : Int) then (if 0 ≤ (IntKind.u64.wrap (Int.tmod x22_3 64)) then (expr_match.l10 k3 (a1.size : Int) (x6_3.set (x21_2 : Int).toNat ((rd_L4 x6_3 x21_2).set ((wrap64 (Int.tdiv x22_3 64)) : Int).toNat (Go.bits .or .u64 (rd (rd_L4 x6_3 x21_2) (wrap64 (Int.tdiv x22_3 64))) (shl .u64 1 (IntKind.u64.wrap (Int.tmod x22_3 64)))))) t368 x21_2 (wrap64 (x22_3 + 1))) else (none)) else (none)) else (none)) else (none)) else (none))) = some r := H
  have A161 := Aside0.mk A1610
  clear A1610
  by_cases c162 : t371 = true
  ·subst c162
   have H1 : (expr_match.l10 k3 (a1.size : Int) x6_3 t368 x21_2 (wrap64 (x22_3 + 1))) = some r := by rw [if_pos rfl] at H; exact H
   clear H
   have H := H1
   clear H1
   have H' := Aside0.mk H
   clear H
   obtain ⟨Ao163, co163, eo163⟩ := Kd.S_slice HO_20.out
   subst eo163
   go_wp2_with (first | ((with_reducible refine gate_callee (f := 61) rfl ?_); refine goesL_ (some 240) rfl rfl Try.func61 (by kernel_rfl) rfl #[.slice Ao163 t368.length co163, .int .i64 x21_2, .int .i64 x22_3] rfl (by (try simp only [List.map_toArray, List.map_cons, List.map_nil]); first | done | rfl | (simp only [List.length_drop, List.length_take]; rfl) | (simp only [Int.ofNat_lt, Int.ofNat_le]; rfl)) ?_; (with_reducible refine (expr_spans_has.calls _ _ t368 x21_2 x22_3 true _ ?side1 ?side2 A161.out).mono ?_); (case side1 => repeat (first | exact (Kd.S_reads' HO_20.out).2.2 | (with_reducible refine Kd.C_alloc ?_ _) | (with_reducible refine Kd.C_drewN ?_ _) | (with_reducible refine Kd.C_drew ?_))); (case side2 => exact (Kd.S_reads' HO_20.out).2.1); rintro e w' ⟨rfl, ⟨nd, rfl⟩⟩; refine ⟨_, rfl, ?_⟩))
   (first | go_roundg k3 | ((simp only [add_plain] at *); go_roundg k3))
   case measure => have := HJ40.out; have := HK2.out; have := HK3.out; omega
   case rel => exact ⟨(x6_3), (wrap64 (x22_3 + 1)), (by first | rfl | (simp; done) | (simp [*]; done)), H', ⟨by have := HJ40.out; have := HK2.out; have := HK3.out; omega⟩, ⟨by (with_reducible repeat (first | apply Kd.S_alloc | apply Kd.S_drewN | apply Kd.S_drew)); exact HO_6.out⟩, ⟨by (with_reducible repeat (first | apply Kd.S_alloc | apply Kd.S_drewN | apply Kd.S_drew)); exact HO_20.out⟩, ⟨bK⟩, ⟨bB⟩⟩
  replace c162 := Bool.eq_false_iff.mpr c162
  subst c162
  have H1 : (if 0 ≤ x21_2 then (if x21_2 < (x6_3.length : Int) then (if 0 ≤ (wrap64 (Int.tdiv x22_3 64)) then (if (wrap64 (Int.tdiv x22_3 64)) < ((rd_L4 x6_3 x21_2).length : Int) then (if 0 ≤ (IntKind.u64.wrap (Int.tmod x22_3 64)) then (expr_match.l10 k3 (a1.size : Int) (x6_3.set (x21_2 : Int).toNat ((rd_L4 x6_3 x21_2).set ((wrap64 (Int.tdiv x22_3 64)) : Int).toNat (Go.bits .or .u64 (rd (rd_L4 x6_3 x21_2) (wrap64 (Int.tdiv x22_3 64))) (shl .u64 1 (IntKind.u64.wrap (Int.tmod x22_3 64)))))) t368 x21_2 (wrap64 (x22_3 + 1))) else (none)) else (none)) else (none)) else (none)) else (none)) = some r := by rw [if_neg (show ¬ (false = true) by decide)] at H; exact H
  clear H
  have H := H1
  clear H1
  by_cases c164 : 0 ≤ x21_2
  rotate_left
  ·rw [if_neg c164] at H
   exact absurd H (by simp)
  rw [if_pos c164] at H
  have c164b0 : decide (0 ≤ x21_2) = true := decide_eq_true c164
  clear c164
  by_cases c165 : x21_2 < (x6_3.length : Int)
  rotate_left
  ·rw [if_neg c165] at H
   exact absurd H (by simp)
  rw [if_pos c165] at H
  have c165b0 : decide (x21_2 < (x6_3.length : Int)) = true := decide_eq_true c165
  clear c165
  obtain ⟨ji166, hji166⟩ : ∃ j_ : Int, (wrap64 (Int.tdiv x22_3 64)) = j_ := ⟨_, rfl⟩
  replace H : (if 0 ≤ (ji166) then (if (ji166) < ((rd_L4 x6_3 x21_2).length : Int) then (if 0 ≤ (IntKind.u64.wrap (Int.tmod x22_3 64)) then (expr_match.l10 k3 (a1.size : Int) (x6_3.set (x21_2 : Int).toNat ((rd_L4 x6_3 x21_2).set ((ji166) : Int).toNat (Go.bits .or .u64 (rd (rd_L4 x6_3 x21_2) (ji166)) (shl .u64 1 (IntKind.u64.wrap (Int.tmod x22_3 64)))))) t368 x21_2 (wrap64 (x22_3 + 1))) else (none)) else (none)) else (none)) = some r := by first | (rw [hji166] at H; exact H) | (simp only [hji166] at H ⊢; exact H)
  (try rw [hji166] at A161)
  have hji166w : (IntKind.i64.wrap (Int.tdiv x22_3 64)) = ji166 := (i64_w _).trans hji166
  by_cases c167 : 0 ≤ (ji166)
  rotate_left
  ·rw [if_neg c167] at H
   exact absurd H (by simp)
  rw [if_pos c167] at H
  have c167b0 : decide (0 ≤ (ji166)) = true := decide_eq_true c167
  clear c167
  by_cases c168 : (ji166) < ((rd_L4 x6_3 x21_2).length : Int)
  rotate_left
  ·rw [if_neg c168] at H
   exact absurd H (by simp)
  rw [if_pos c168] at H
  have c168b0 : decide ((ji166) < ((rd_L4 x6_3 x21_2).length : Int)) = true := decide_eq_true c168
  clear c168
  obtain ⟨ji169, hji169⟩ : ∃ j_ : Int, (IntKind.u64.wrap (Int.tmod x22_3 64)) = j_ := ⟨_, rfl⟩
  replace H : (if 0 ≤ (ji169) then (expr_match.l10 k3 (a1.size : Int) (x6_3.set (x21_2 : Int).toNat ((rd_L4 x6_3 x21_2).set ((ji166) : Int).toNat (Go.bits .or .u64 (rd (rd_L4 x6_3 x21_2) (ji166)) (shl .u64 1 (ji169))))) t368 x21_2 (wrap64 (x22_3 + 1))) else (none)) = some r := by first | (rw [hji169] at H; exact H) | (simp only [hji169] at H ⊢; exact H)
  (try rw [hji169] at A161)
  by_cases c170 : 0 ≤ (ji169)
  rotate_left
  ·rw [if_neg c170] at H
   exact absurd H (by simp)
  rw [if_pos c170] at H
  have c170b0 := eq_true c170
  have c170b1 : decide (0 ≤ (ji169)) = true := decide_eq_true c170
  clear c170
  obtain ⟨ji171, hji171⟩ : ∃ j_ : Int, (shl .u64 1 (ji169)) = j_ := ⟨_, rfl⟩
  replace H : (expr_match.l10 k3 (a1.size : Int) (x6_3.set (x21_2 : Int).toNat ((rd_L4 x6_3 x21_2).set ((ji166) : Int).toNat (Go.bits .or .u64 (rd (rd_L4 x6_3 x21_2) (ji166)) (ji171)))) t368 x21_2 (wrap64 (x22_3 + 1))) = some r := by first | (rw [hji171] at H; exact H) | (simp only [hji171] at H ⊢; exact H)
  (try rw [hji171] at A161)
  have hji171_ : (IntKind.u64.wrap (1 * 2 ^ min (ji169).toNat 64)) = ji171 := hji171
  have hji171z : (ji169) ≤ 64 → (IntKind.u64.wrap (1 * 2 ^ (ji169).toNat)) = ji171 := shl_small hji171
  have hji171u : (IntKind.u64.wrap (2 ^ min (ji169).toNat 64)) = ji171 := by have h_ := hji171_; rw [Int.one_mul] at h_; exact h_
  have hji171v : (ji169) ≤ 64 → (IntKind.u64.wrap (2 ^ (ji169).toNat)) = ji171 := fun hle_ => by have h_ := hji171z hle_; rw [Int.one_mul] at h_; exact h_
  obtain ⟨y374, hy374⟩ : ∃ y_ : List Int, y_ = ((rd_L4 x6_3 x21_2).set ((ji166) : Int).toNat (Go.bits .or .u64 (rd (rd_L4 x6_3 x21_2) (ji166)) (ji171))) := ⟨_, rfl⟩
  replace H : (expr_match.l10 k3 (a1.size : Int) (x6_3.set (x21_2 : Int).toNat y374) t368 x21_2 (wrap64 (x22_3 + 1))) = some r := by first | (rw [hy374]; with_reducible exact H) | (have H2_ := (Option.bind_some _ _).symm.trans H; rw [hy374]; with_reducible exact H2_) | (have H2_ := (Option.bind_some _ _).symm.trans H; with_reducible exact H2_) | with_reducible exact H | (rw [hy374]; exact H) | exact H
  have Ny374 := Aside0.mk hy374
  clear hy374
  obtain ⟨y376, hy376⟩ : ∃ y_ : List (List Int), y_ = (x6_3.set (x21_2 : Int).toNat y374) := ⟨_, rfl⟩
  replace H : (expr_match.l10 k3 (a1.size : Int) y376 t368 x21_2 (wrap64 (x22_3 + 1))) = some r := by first | (rw [hy376]; with_reducible exact H) | (have H2_ := (Option.bind_some _ _).symm.trans H; rw [hy376]; with_reducible exact H2_) | (have H2_ := (Option.bind_some _ _).symm.trans H; with_reducible exact H2_) | with_reducible exact H | (rw [hy376]; exact H) | exact H
  have Ny376 := Aside0.mk hy376
  clear hy376
  have H' := Aside0.mk H
  clear H
  obtain ⟨Ao173, co173, eo173⟩ := Kd.S_slice HO_20.out
  subst eo173
  go_wp2_with (first | ((with_reducible refine gate_callee (f := 61) rfl ?_); refine goesL_ (some 240) rfl rfl Try.func61 (by kernel_rfl) rfl #[.slice Ao173 t368.length co173, .int .i64 x21_2, .int .i64 x22_3] rfl (by (try simp only [List.map_toArray, List.map_cons, List.map_nil]); first | done | rfl | (simp only [List.length_drop, List.length_take]; rfl) | (simp only [Int.ofNat_lt, Int.ofNat_le]; rfl)) ?_; (with_reducible refine (expr_spans_has.calls _ _ t368 x21_2 x22_3 false _ ?side1 ?side2 A161.out).mono ?_); (case side1 => repeat (first | exact (Kd.S_reads' HO_20.out).2.2 | (with_reducible refine Kd.C_alloc ?_ _) | (with_reducible refine Kd.C_drewN ?_ _) | (with_reducible refine Kd.C_drew ?_))); (case side2 => exact (Kd.S_reads' HO_20.out).2.1); rintro e w' ⟨rfl, ⟨nd, rfl⟩⟩; refine ⟨_, rfl, ?_⟩; (try (rw [drewN_self wr]; generalize hq_ : World.drewN wr _ = wr; have n0_ : Aside0 (Kd.S (Kd.slice 71 (Kd.int .u64)) 70 wr w.heap.size (fun k_ => some k_ ≠ (v295 : Value).ownBlock ∧ hs385 ≤ k_) (.slice Ao173 t368.length co173) t368) := ⟨by rw [← hq_]; exact (by (with_reducible repeat (first | apply Kd.S_alloc | apply Kd.S_drewN | apply Kd.S_drew)); exact HO_20.out)⟩; have n1_ : Aside0 (Kd.S (Kd.slice 71 (Kd.int .u64)) 70 wr w.heap.size (fun k_ => some k_ ≠ (.slice Ao173 t368.length co173 : Value).ownBlock ∧ k_ < hs385) v295 x6_3) := ⟨by rw [← hq_]; exact (by (with_reducible repeat (first | apply Kd.S_alloc | apply Kd.S_drewN | apply Kd.S_drew)); exact HO_6.out)⟩; have n2_ : Aside0 (wr.heap[gb293]? = some (.cells #[.int .i64 a0_0, .int .i64 a0_1, .slice (some ad367) l0_2.length c0_2] 24 (0, 0))) := ⟨by rw [← hq_]; exact (bK)⟩; have n3_ : Aside0 (Below w.heap.size w wr) := ⟨by rw [← hq_]; exact (bB)⟩; clear HO_20 HO_6 BK293 HB hq_; have HO_20 := n0_; have HO_6 := n1_; have BK293 := n2_; have HB := n3_; clear n0_ n1_ n2_ n3_)); obtain ⟨Ao174, co174, eo174⟩ := Kd.S_slice HO_6.out; subst eo174; have p372 : 0 ≤ (x21_2 : Int) := of_decide_eq_true (by first | (with_reducible assumption) | assumption); have q372 : x21_2 < (x6_3.length : Int) := of_decide_eq_true (by first | (with_reducible assumption) | assumption); obtain ⟨ad372, A372_0, c372_0, e372, hx372_0, hl372_0, hi372_0⟩ := at_L4 (Kd.S_reads' HO_6.out).2.2 x21_2 p372 q372; cases e372; obtain ⟨ce372, hce372, hMe372, hcc372⟩ := Kd.S_get HO_6.out [] x21_2 p372 (by first | exact q372 | exact of_decide_eq_true (by first | (with_reducible assumption) | assumption) | (have e_ := (Kd.S_reads' HO_6.out).1; omega)); obtain ⟨ve372_0, rfl, ge372_0⟩ := hMe372; have hv372_0 := hcc372 0 _ rfl; rw [Nat.add_zero, show ((Kd.slice 71 (Kd.int .u64))).sz = 1 from rfl, Nat.mul_one] at hv372_0; replace hv372_0 := Option.some.inj (hv372_0.symm.trans hx372_0); rw [hv372_0] at ge372_0; have HL372_0 := Aside0.mk (show Kd.R (Kd.int .u64) 71 _ _ _ _ (rd_L4 x6_3 x21_2) from ge372_0); clear hv372_0 ge372_0; have HX372_0 := Aside0.mk hx372_0; clear hcc372 hce372; have HR372_0 := Aside0.mk hi372_0; have HC372_0 := Aside0.mk hl372_0; clear hi372_0 hl372_0; replace p372 := eq_true p372; replace q372 := eq_true q372; have p373 : 0 ≤ ((ji166) : Int) := of_decide_eq_true (by first | (with_reducible assumption) | assumption); have q373 : (ji166) < ((rd_L4 x6_3 x21_2).length : Int) := of_decide_eq_true (by first | (with_reducible assumption) | assumption); obtain ⟨ad373, e373, hx373_0⟩ := Kd.at_int (by repeat (first | (with_reducible exact HR372_0.out) | (with_reducible refine Kd.C_alloc ?_ _) | (with_reducible refine Kd.C_drewN ?_ _) | (with_reducible refine Kd.C_drew ?_) | exact HR372_0.out)) (ji166) p373 q373; cases e373; replace p373 := eq_true p373; replace q373 := eq_true q373; have p172 : 0 ≤ ((ji166) : Int) := of_decide_eq_true (by first | (with_reducible assumption) | assumption); have q172 : ((ji166) : Int) < (((rd_L4 x6_3 x21_2).length : Int) : Int) := of_decide_eq_true (by first | (with_reducible assumption) | assumption); obtain ⟨go172, co172, eo172, gb172, gl172, cl172, HG172⟩ := Kd.R_form HL372_0.out (by omega); (first | cases eo172 | (injection eo172 with ea_ en_ ec_; (first | subst ea_ | (injection ea_ with ea_; subst ea_)); subst ec_; clear en_)); have GB172 := Aside0.mk gb172; have GG172 := Aside0.mk HG172; clear gb172 gl172 HG172; (first | simp only [add_plain] at hx373_0 | skip); obtain ⟨hx172_0, hf172_0⟩ := Kd.R_celln 0 HL372_0.out ((ji166) : Int) p172 q172; replace p172 := eq_true p172; replace q172 := eq_true q172; have hq175 : (x21_2 : Int) < (x6_3.length : Int) := (by have h_ : (x21_2 : Int) < ((x6_3.length : Int) : Int) := of_decide_eq_true (by first | (with_reducible assumption) | assumption); first | exact h_ | (have e_ := (Kd.S_reads' HO_6.out).1; omega) | simpa only [List.length_set, List.length_set] using h_); obtain ⟨oki175, ce175, hcl175, hM175, hcc175, hok175, hbk175⟩ := Kd.S_borrow HO_6.out [] (x21_2 : Int) (of_decide_eq_true (by first | (with_reducible assumption) | assumption)) hq175; obtain ⟨ve175_0, rfl, ge175_0⟩ := hM175; have hv175 := hcc175 0 _ rfl; rw [Nat.add_zero, show ((Kd.slice 71 (Kd.int .u64))).sz = 1 from rfl, Nat.mul_one] at hv175; replace hv175 := Option.some.inj (hv175.symm.trans HX372_0.out); subst hv175; clear hcc175 hcl175; replace ge175_0 := (show Kd.R (Kd.int .u64) 71 _ _ _ _ (rd_L4 x6_3 x21_2) from ge175_0); have HP175 := Kd.R_putg ge175_0 ((ji166) : Int) (Go.bits .or .u64 (rd (rd_L4 x6_3 x21_2) (ji166)) (ji171))) | (go_at_call 75; refine (spans_add.calls _ _ _ _ _ go172 ?m1x4 ?m2x4 ?m3x4 ji166 ?m4x4 ji171 _ ?a1x4 ?a2x4 ?a3x4 ?a4x4 ?a5x4 ?a6x4 ?a7x4 ?a8x4 ?a9x4 ?a10x4 ?a11x4).mono ?_; (case a3x4 => first | with_reducible assumption | assumption); (case a9x4 => first | with_reducible assumption | assumption); (case a7x4 => first | with_reducible assumption | assumption); (case a1x4 => first | with_reducible assumption | exact of_eq_true (by with_reducible assumption) | exact of_decide_eq_true (by with_reducible assumption) | with_reducible rfl | assumption | rfl); (case a2x4 => first | with_reducible assumption | exact of_eq_true (by with_reducible assumption) | exact of_decide_eq_true (by with_reducible assumption) | with_reducible rfl | assumption | rfl); (case a4x4 => first | with_reducible assumption | exact of_eq_true (by with_reducible assumption) | exact of_decide_eq_true (by with_reducible assumption) | with_reducible rfl | assumption | rfl); (case a5x4 => first | with_reducible assumption | exact of_eq_true (by with_reducible assumption) | exact of_decide_eq_true (by with_reducible assumption) | with_reducible rfl | assumption | rfl); (case a6x4 => first | with_reducible assumption | exact of_eq_true (by with_reducible assumption) | exact of_decide_eq_true (by with_reducible assumption) | with_reducible rfl | assumption | rfl); (case a8x4 => first | with_reducible assumption | exact of_eq_true (by with_reducible assumption) | exact of_decide_eq_true (by with_reducible assumption) | with_reducible rfl | assumption | rfl); (case a10x4 => first | with_reducible assumption | exact of_eq_true (by with_reducible assumption) | exact of_decide_eq_true (by with_reducible assumption) | with_reducible rfl | assumption | rfl); (case a11x4 => first | with_reducible assumption | exact of_eq_true (by with_reducible assumption) | exact of_decide_eq_true (by with_reducible assumption) | with_reducible rfl | assumption | rfl); rintro e w176 ⟨rfl, hw⟩; have hg : wr.grownBy w176 (some go172) := (by rw [hw]; exact HP175.2); have hz_ : Kd.R (Kd.int .u64) 71 w176 w.heap.size oki175 (.slice (some ⟨go172, 0, none⟩) (rd_L4 x6_3 x21_2).length c372_0) y374 := (by rw [hw, Ny374.out]; exact HP175.1); have hp_ : Kd.S (Kd.slice 71 (Kd.int .u64)) 70 w176 w.heap.size (fun k_ => some k_ ≠ (.slice Ao173 t368.length co173 : Value).ownBlock ∧ k_ < hs385) (.slice (some ad372) x6_3.length co174) y376 := (by rw [Ny376.out]; exact hbk175 hg (fun k_ e_ => by injection e_ with e_; subst e_; exact ge175_0.1 _ rfl) (Kd.M_row hz_)); have hm_ := Kd.R_mono hz_ hok175; clear HP175 hbk175; have n0_ := Aside0.mk (hp_); have n1_ := Aside0.mk (Kd.S_step (by (with_reducible repeat (first | apply Kd.S_alloc | apply Kd.S_drewN | apply Kd.S_drew)); exact HO_20.out) (fun k_ (ho_ : (some k_ ≠ (.slice (some ad372) x6_3.length co174 : Value).ownBlock ∧ hs385 ≤ k_)) hlt_ => hg.block k_ hlt_ (fun he_ => absurd (Option.some.inj he_) (Nat.ne_of_gt (Nat.lt_of_lt_of_le ((HL372_0.out.1 _ rfl).1.2) (ho_.2)))))); have n2_ := Aside0.mk (blk_grown (g := gb293) (o := .cells #[.int .i64 a0_0, .int .i64 a0_1, .slice (some ad367) l0_2.length c0_2] 24 (0, 0)) (bK) hg (Kd.R_ne HL372_0.out BK293.out (by decide))); have n3_ := Aside0.mk ((by rw [hw]; exact below_set (HB.out) GB172.out : Below w.heap.size w w176)); have n4_ := Aside0.mk (hm_); have n5_ := Aside0.mk ((Kd.R_reads' hm_).2.1); clear HO_6; clear HO_20; clear BK293; clear HB; clear HL372_0; have HO_6 := n0_; have HO_20 := n1_; have BK293 := n2_; have HB := n3_; have HL386 := n4_; have HC375 := n5_; clear n0_ n1_ n2_ n3_ n4_ n5_; clear hg hw hp_ hz_ hm_ hok175))
  (first | go_roundg k3 | ((simp only [add_plain] at *); go_roundg k3))
  case measure => have := HJ40.out; have := HK2.out; have := HK3.out; omega
  case rel => exact ⟨(y376), (wrap64 (x22_3 + 1)), (by first | rfl | (simp; done) | (simp [*]; done)), H', ⟨by have := HJ40.out; have := HK2.out; have := HK3.out; omega⟩, ⟨by (with_reducible repeat (first | apply Kd.S_alloc | apply Kd.S_drewN | apply Kd.S_drew)); exact HO_6.out⟩, ⟨by (with_reducible repeat (first | apply Kd.S_alloc | apply Kd.S_drewN | apply Kd.S_drew)); exact HO_20.out⟩, ⟨bK⟩, ⟨bB⟩⟩
 rw [if_pos c117] at H
 have c117b0 : (a0_0 == 7) = true := beq_iff_eq.mpr c117
 have c117b1 : (a0_0 != 7) = false := bne_eq_false_iff_eq.mpr c117
 clear c117
 by_cases c118 : 0 < (l0_2.length : Int)
 rotate_left
 ·rw [if_neg c118] at H
  exact absurd H (by simp)
 rw [if_pos c118] at H
 have c118b0 : decide (0 < (l0_2.length : Int)) = true := decide_eq_true c118
 have c118b1 : decide (0 < l0_2.length) = true := decide_eq_true (by omega)
 clear c118
 replace H := Option.bind_eq_some_iff.mp H
 obtain ⟨t350, A1190, H⟩ := H
 replace H : (expr_match.l6 kj40 (a1.size : Int) t294 t350 (a1.size : Int)) = some r := H
 have A119 := Aside0.mk A1190
 clear A1190
 have H' := Aside0.mk H
 clear H
 have hcz120_0 : wc.cell? ⟨gb293, 0, none⟩ = some (.int .i64 a0_0) := (blk_cell BK293.out 0).trans rfl
 have hcz120_1 : wc.cell? ⟨gb293, 1, none⟩ = some (.int .i64 a0_1) := (blk_cell BK293.out 1).trans rfl
 have hcz120_2 : wc.cell? ⟨gb293, 2, none⟩ = some (.slice A0_2 l0_2.length c0_2) := (blk_cell BK293.out 2).trans rfl
 have hfz120_0 := blk_frozen BK293.out 0
 have hfz120_1 := blk_frozen BK293.out 1
 have hfz120_2 := blk_frozen BK293.out 2
 have p349 : 0 ≤ (0 : Int) := (by omega)
 have q349 : 0 < (l0_2.length : Int) := of_decide_eq_true (by first | (with_reducible assumption) | assumption)
 obtain ⟨ad349, A349_2, c349_2, e349, hx349_0, hx349_1, hx349_2, hl349_2, hi349_2⟩ := at_T24 HR0_2.out 0 p349 q349
 cases e349
 have qi349 : (0 < l0_2.length) = True := eq_true (by omega)
 (try rw [show ((0 : Int)).toNat = 0 from rfl] at hx349_0)
 (try rw [show 0 * 3 = 0 from rfl] at hx349_0)
 (try rw [Addr.add_zero'] at hx349_0)
 (try rw [show ((0 : Int)).toNat = 0 from rfl] at hx349_1)
 (try rw [show 0 * 3 = 0 from rfl] at hx349_1)
 (try rw [Addr.add_zero'] at hx349_1)
 (try rw [show ((0 : Int)).toNat = 0 from rfl] at hx349_2)
 (try rw [show 0 * 3 = 0 from rfl] at hx349_2)
 (try rw [Addr.add_zero'] at hx349_2)
 replace hx349_0 := (HB.out.cell (World.block_lt_of_cell? w _ hx349_0)).trans hx349_0
 replace hx349_1 := (HB.out.cell (World.block_lt_of_cell? w _ hx349_1)).trans hx349_1
 replace hx349_2 := (HB.out.cell (World.block_lt_of_cell? w _ hx349_2)).trans hx349_2
 have HR349_2 := Aside0.mk hi349_2
 have HC349_2 := Aside0.mk hl349_2
 clear hi349_2 hl349_2
 replace p349 := eq_true p349
 replace q349 := eq_true q349
 go_wp2_with (first | ((with_reducible refine gate_callee (f := 60) rfl ?_); (fail_if_success (have chk_ := HO352)); refine goesL_ (some 172) rfl rfl Try.func60 (by kernel_rfl) rfl #[.agg #[.int .i64 ((rd_T24 l0_2 0).f0), .int .i64 ((rd_T24 l0_2 0).f1), .slice A349_2 ((rd_T24 l0_2 0).f2).length c349_2], .string a1] rfl (by (try simp only [List.map_toArray, List.map_cons, List.map_nil]); first | done | rfl | (simp only [List.length_drop, List.length_take]; rfl) | (simp only [Int.ofNat_lt, Int.ofNat_le]; rfl)) ?_; (with_reducible refine (ih kj40 (by have := HJ40.out; omega) ((rd_T24 l0_2 0).f0) ((rd_T24 l0_2 0).f1) _ _ ((rd_T24 l0_2 0).f2) a1 t350 _ ?side1 ?side2 A119.out).mono ?_); (case side1 => repeat (first | exact (Kd.C_below HR349_2.out HB.out) | (with_reducible refine Kd.C_alloc ?_ _) | (with_reducible refine Kd.C_drewN ?_ _) | (with_reducible refine Kd.C_drew ?_))); (case side2 => exact HC349_2.out); rintro e w121 ⟨v351, rfl, ho0, hb⟩; refine ⟨_, rfl, ?_⟩; obtain ⟨hs383, hs383q⟩ := FootX.size_of hb; have HQhs383 := Aside0.mk hs383q; clear hs383q; have n0_ := Aside0.mk (Kd.S_elder' (FootX.S_lt (by (with_reducible repeat (first | apply Kd.S_alloc | apply Kd.S_drewN | apply Kd.S_drew)); exact HO_6.out) HQhs383.out) (Kd.S_base ho0) hb); have n1_ := Aside0.mk (Kd.S_lower (Kd.S_new' (FootX.S_ge ho0 HQhs383.out) (Kd.S_lt (by (with_reducible repeat (first | apply Kd.S_alloc | apply Kd.S_drewN | apply Kd.S_drew)); exact HO_6.out))) (below_size (bB))); have n2_ := Aside0.mk (blk_below (g := gb293) (o := .cells #[.int .i64 a0_0, .int .i64 a0_1, .slice (some ad349) l0_2.length c0_2] 24 (0, 0)) (bK) hb); have n3_ := Aside0.mk (below_step (bB) hb); clear HO_6; clear BK293; clear HB; have HO_6 := n0_; have HO352 := n1_; have BK293 := n2_; have HB := n3_; clear n0_ n1_ n2_ n3_; (try clear hb); (try clear hb2); (try clear hk); (try clear hi); (try clear ho0)))
 go_loopg [17] kj40 (fun kq v17 w' => ∃ (x6_2 : List (List Int)) (x17_2 : Int), v17 = .int .i64 x17_2 ∧ Aside0 (expr_match.l6 kq (a1.size : Int) x6_2 t350 x17_2 = some r) ∧ Aside0 (kq ≤ kj40) ∧ Aside0 (Kd.S (Kd.slice 71 (Kd.int .u64)) 70 w' w.heap.size (fun k_ => some k_ ≠ (v351 : Value).ownBlock ∧ k_ < hs383) v295 x6_2) ∧ Aside0 (Kd.S (Kd.slice 71 (Kd.int .u64)) 70 w' w.heap.size (fun k_ => some k_ ≠ (v295 : Value).ownBlock ∧ hs383 ≤ k_) v351 t350) ∧ Aside0 (w'.heap[gb293]? = some (.cells #[.int .i64 a0_0, .int .i64 a0_1, (.slice (some ad349) l0_2.length c0_2)] 24 (0, 0))) ∧ Aside0 (Below w.heap.size w w'))
 case atStart => exact ⟨(t294), ((a1.size : Int)), (by first | rfl | (simp; done) | (simp [*]; done)), H', ⟨Nat.le_refl _⟩, ⟨by (with_reducible repeat (first | apply Kd.S_alloc | apply Kd.S_drewN | apply Kd.S_drew)); exact Kd.S_mono HO_6.out (fun _ hk => ⟨hk.2, hk.1.2⟩)⟩, ⟨by (with_reducible repeat (first | apply Kd.S_alloc | apply Kd.S_drewN | apply Kd.S_drew)); exact Kd.S_mono HO352.out (fun _ hk => ⟨hk.2, hk.1⟩)⟩, ⟨bK⟩, ⟨bB⟩⟩
 clear H'
 try clear c8
 try clear c43
 try clear c97
 try clear c97b0
 try clear c97b1
 try clear c117
 try clear c117b0
 try clear c117b1
 try clear c118
 try clear c118b0
 try clear c118b1
 try clear hcz120_0
 try clear hcz120_1
 try clear hcz120_2
 try clear hfz120_0
 try clear hfz120_1
 try clear hfz120_2
 try clear hx349_0
 try clear hx349_1
 try clear hx349_2
 try clear p349
 try clear q349
 obtain ⟨x6_2, x17_2, rfl, HA, HK2, HO_6, HO_16, BK293, HB⟩ := hrel
 cases gk with
 | zero => exact absurd HA.out (by simp [expr_match.l6])
 | succ k2 => ?_
 have H := HA.out
 clear HA
 simp only [expr_match.l6] at H
 by_cases c122 : x17_2 ≥ 0
 rotate_left
 ·rw [if_neg c122] at H
  have c122b0 : decide (0 ≤ x17_2) = false := decide_eq_false c122
  clear c122
  obtain rfl := Option.some.inj H
  go_wp2
  go_ret
  exact ⟨_, by first | rfl | (simp [errW_none, errW_some] <;> rfl) | (simp [*, errW_none, errW_some] <;> rfl), by (with_reducible repeat (first | apply Kd.S_alloc | apply Kd.S_drewN | apply Kd.S_drew)); exact Kd.S_mono HO_6.out (fun _ hk => trivial), bB⟩
 rw [if_pos c122] at H
 have c122b0 : decide (0 ≤ x17_2) = true := decide_eq_true c122
 clear c122
 by_cases c123 : 0 ≤ x17_2
 rotate_left
 ·rw [if_neg c123] at H
  exact absurd H (by simp)
 rw [if_pos c123] at H
 have c123b0 : decide (0 ≤ x17_2) = true := decide_eq_true c123
 clear c123
 by_cases c124 : x17_2 < (x6_2.length : Int)
 rotate_left
 ·rw [if_neg c124] at H
  exact absurd H (by simp)
 rw [if_pos c124] at H
 have c124b0 : decide (x17_2 < (x6_2.length : Int)) = true := decide_eq_true c124
 clear c124
 obtain ⟨ji125, hji125⟩ : ∃ j_ : Int, (wrap64 (Int.tdiv x17_2 64)) = j_ := ⟨_, rfl⟩
 replace H : (if 0 ≤ (ji125) then (if (ji125) < ((rd_L4 x6_2 x17_2).length : Int) then (if 0 ≤ (IntKind.u64.wrap (Int.tmod x17_2 64)) then (expr_match.l7 k2 (a1.size : Int) (x6_2.set (x17_2 : Int).toNat ((rd_L4 x6_2 x17_2).set ((ji125) : Int).toNat (Go.bits .or .u64 (rd (rd_L4 x6_2 x17_2) (ji125)) (shl .u64 1 (IntKind.u64.wrap (Int.tmod x17_2 64)))))) t350 x17_2 (wrap64 (x17_2 + 1))) else (none)) else (none)) else (none)) = some r := by first | (rw [hji125] at H; exact H) | (simp only [hji125] at H ⊢; exact H)
 have hji125w : (IntKind.i64.wrap (Int.tdiv x17_2 64)) = ji125 := (i64_w _).trans hji125
 by_cases c126 : 0 ≤ (ji125)
 rotate_left
 ·rw [if_neg c126] at H
  exact absurd H (by simp)
 rw [if_pos c126] at H
 have c126b0 : decide (0 ≤ (ji125)) = true := decide_eq_true c126
 clear c126
 by_cases c127 : (ji125) < ((rd_L4 x6_2 x17_2).length : Int)
 rotate_left
 ·rw [if_neg c127] at H
  exact absurd H (by simp)
 rw [if_pos c127] at H
 have c127b0 : decide ((ji125) < ((rd_L4 x6_2 x17_2).length : Int)) = true := decide_eq_true c127
 clear c127
 obtain ⟨ji128, hji128⟩ : ∃ j_ : Int, (IntKind.u64.wrap (Int.tmod x17_2 64)) = j_ := ⟨_, rfl⟩
 replace H : (if 0 ≤ (ji128) then (expr_match.l7 k2 (a1.size : Int) (x6_2.set (x17_2 : Int).toNat ((rd_L4 x6_2 x17_2).set ((ji125) : Int).toNat (Go.bits .or .u64 (rd (rd_L4 x6_2 x17_2) (ji125)) (shl .u64 1 (ji128))))) t350 x17_2 (wrap64 (x17_2 + 1))) else (none)) = some r := by first | (rw [hji128] at H; exact H) | (simp only [hji128] at H ⊢; exact H)
 by_cases c129 : 0 ≤ (ji128)
 rotate_left
 ·rw [if_neg c129] at H
  exact absurd H (by simp)
 rw [if_pos c129] at H
 have c129b0 := eq_true c129
 have c129b1 : decide (0 ≤ (ji128)) = true := decide_eq_true c129
 clear c129
 obtain ⟨ji130, hji130⟩ : ∃ j_ : Int, (shl .u64 1 (ji128)) = j_ := ⟨_, rfl⟩
 replace H : (expr_match.l7 k2 (a1.size : Int) (x6_2.set (x17_2 : Int).toNat ((rd_L4 x6_2 x17_2).set ((ji125) : Int).toNat (Go.bits .or .u64 (rd (rd_L4 x6_2 x17_2) (ji125)) (ji130)))) t350 x17_2 (wrap64 (x17_2 + 1))) = some r := by first | (rw [hji130] at H; exact H) | (simp only [hji130] at H ⊢; exact H)
 have hji130_ : (IntKind.u64.wrap (1 * 2 ^ min (ji128).toNat 64)) = ji130 := hji130
 have hji130z : (ji128) ≤ 64 → (IntKind.u64.wrap (1 * 2 ^ (ji128).toNat)) = ji130 := shl_small hji130
 have hji130u : (IntKind.u64.wrap (2 ^ min (ji128).toNat 64)) = ji130 := by have h_ := hji130_; rw [Int.one_mul] at h_; exact h_
 have hji130v : (ji128) ≤ 64 → (IntKind.u64.wrap (2 ^ (ji128).toNat)) = ji130 := fun hle_ => by have h_ := hji130z hle_; rw [Int.one_mul] at h_; exact h_
 obtain ⟨y355, hy355⟩ : ∃ y_ : List Int, y_ = ((rd_L4 x6_2 x17_2).set ((ji125) : Int).toNat (Go.bits .or .u64 (rd (rd_L4 x6_2 x17_2) (ji125)) (ji130))) := ⟨_, rfl⟩
 replace H : (expr_match.l7 k2 (a1.size : Int) (x6_2.set (x17_2 : Int).toNat y355) t350 x17_2 (wrap64 (x17_2 + 1))) = some r := by first | (rw [hy355]; with_reducible exact H) | (have H2_ := (Option.bind_some _ _).symm.trans H; rw [hy355]; with_reducible exact H2_) | (have H2_ := (Option.bind_some _ _).symm.trans H; with_reducible exact H2_) | with_reducible exact H | (rw [hy355]; exact H) | exact H
 have Ny355 := Aside0.mk hy355
 clear hy355
 obtain ⟨y357, hy357⟩ : ∃ y_ : List (List Int), y_ = (x6_2.set (x17_2 : Int).toNat y355) := ⟨_, rfl⟩
 replace H : (expr_match.l7 k2 (a1.size : Int) y357 t350 x17_2 (wrap64 (x17_2 + 1))) = some r := by first | (rw [hy357]; with_reducible exact H) | (have H2_ := (Option.bind_some _ _).symm.trans H; rw [hy357]; with_reducible exact H2_) | (have H2_ := (Option.bind_some _ _).symm.trans H; with_reducible exact H2_) | with_reducible exact H | (rw [hy357]; exact H) | exact H
 have Ny357 := Aside0.mk hy357
 clear hy357
 have H' := Aside0.mk H
 clear H
 obtain ⟨Ao132, co132, eo132⟩ := Kd.S_slice HO_6.out
 subst eo132
 have p353 : 0 ≤ (x17_2 : Int) := of_decide_eq_true (by first | (with_reducible assumption) | assumption)
 have q353 : x17_2 < (x6_2.length : Int) := of_decide_eq_true (by first | (with_reducible assumption) | assumption)
 obtain ⟨ad353, A353_0, c353_0, e353, hx353_0, hl353_0, hi353_0⟩ := at_L4 (Kd.S_reads' HO_6.out).2.2 x17_2 p353 q353
 cases e353
 obtain ⟨ce353, hce353, hMe353, hcc353⟩ := Kd.S_get HO_6.out [] x17_2 p353 (by first | exact q353 | exact of_decide_eq_true (by first | (with_reducible assumption) | assumption) | (have e_ := (Kd.S_reads' HO_6.out).1; omega))
 obtain ⟨ve353_0, rfl, ge353_0⟩ := hMe353
 have hv353_0 := hcc353 0 _ rfl
 rw [Nat.add_zero, show ((Kd.slice 71 (Kd.int .u64))).sz = 1 from rfl, Nat.mul_one] at hv353_0
 replace hv353_0 := Option.some.inj (hv353_0.symm.trans hx353_0)
 rw [hv353_0] at ge353_0
 have HL353_0 := Aside0.mk (show Kd.R (Kd.int .u64) 71 _ _ _ _ (rd_L4 x6_2 x17_2) from ge353_0)
 clear hv353_0 ge353_0
 have HX353_0 := Aside0.mk hx353_0
 clear hcc353 hce353
 have HR353_0 := Aside0.mk hi353_0
 have HC353_0 := Aside0.mk hl353_0
 clear hi353_0 hl353_0
 replace p353 := eq_true p353
 replace q353 := eq_true q353
 have p354 : 0 ≤ ((ji125) : Int) := of_decide_eq_true (by first | (with_reducible assumption) | assumption)
 have q354 : (ji125) < ((rd_L4 x6_2 x17_2).length : Int) := of_decide_eq_true (by first | (with_reducible assumption) | assumption)
 obtain ⟨ad354, e354, hx354_0⟩ := Kd.at_int (by repeat (first | (with_reducible exact HR353_0.out) | (with_reducible refine Kd.C_alloc ?_ _) | (with_reducible refine Kd.C_drewN ?_ _) | (with_reducible refine Kd.C_drew ?_) | exact HR353_0.out)) (ji125) p354 q354
 cases e354
 replace p354 := eq_true p354
 replace q354 := eq_true q354
 have p131 : 0 ≤ ((ji125) : Int) := of_decide_eq_true (by first | (with_reducible assumption) | assumption)
 have q131 : ((ji125) : Int) < (((rd_L4 x6_2 x17_2).length : Int) : Int) := of_decide_eq_true (by first | (with_reducible assumption) | assumption)
 obtain ⟨go131, co131, eo131, gb131, gl131, cl131, HG131⟩ := Kd.R_form HL353_0.out (by omega)
 (first | cases eo131 | (injection eo131 with ea_ en_ ec_; (first | subst ea_ | (injection ea_ with ea_; subst ea_)); subst ec_; clear en_))
 have GB131 := Aside0.mk gb131
 have GG131 := Aside0.mk HG131
 clear gb131 gl131 HG131
 (first | simp only [add_plain] at hx354_0 | skip)
 obtain ⟨hx131_0, hf131_0⟩ := Kd.R_celln 0 HL353_0.out ((ji125) : Int) p131 q131
 replace p131 := eq_true p131
 replace q131 := eq_true q131
 have hq133 : (x17_2 : Int) < (x6_2.length : Int) := (by have h_ : (x17_2 : Int) < ((x6_2.length : Int) : Int) := of_decide_eq_true (by first | (with_reducible assumption) | assumption); first | exact h_ | (have e_ := (Kd.S_reads' HO_6.out).1; omega) | simpa only [List.length_set, List.length_set] using h_)
 obtain ⟨oki133, ce133, hcl133, hM133, hcc133, hok133, hbk133⟩ := Kd.S_borrow HO_6.out [] (x17_2 : Int) (of_decide_eq_true (by first | (with_reducible assumption) | assumption)) hq133
 obtain ⟨ve133_0, rfl, ge133_0⟩ := hM133
 have hv133 := hcc133 0 _ rfl
 rw [Nat.add_zero, show ((Kd.slice 71 (Kd.int .u64))).sz = 1 from rfl, Nat.mul_one] at hv133
 replace hv133 := Option.some.inj (hv133.symm.trans HX353_0.out)
 subst hv133
 clear hcc133 hcl133
 replace ge133_0 := (show Kd.R (Kd.int .u64) 71 _ _ _ _ (rd_L4 x6_2 x17_2) from ge133_0)
 have HP133 := Kd.R_putg ge133_0 ((ji125) : Int) (Go.bits .or .u64 (rd (rd_L4 x6_2 x17_2) (ji125)) (ji130))
 go_wp2_with (first | (go_at_call 75; refine (spans_add.calls _ _ _ _ _ go131 ?m1x3 ?m2x3 ?m3x3 ji125 ?m4x3 ji130 _ ?a1x3 ?a2x3 ?a3x3 ?a4x3 ?a5x3 ?a6x3 ?a7x3 ?a8x3 ?a9x3 ?a10x3 ?a11x3).mono ?_; (case a3x3 => first | with_reducible assumption | assumption); (case a9x3 => first | with_reducible assumption | assumption); (case a7x3 => first | with_reducible assumption | assumption); (case a1x3 => first | with_reducible assumption | exact of_eq_true (by with_reducible assumption) | exact of_decide_eq_true (by with_reducible assumption) | with_reducible rfl | assumption | rfl); (case a2x3 => first | with_reducible assumption | exact of_eq_true (by with_reducible assumption) | exact of_decide_eq_true (by with_reducible assumption) | with_reducible rfl | assumption | rfl); (case a4x3 => first | with_reducible assumption | exact of_eq_true (by with_reducible assumption) | exact of_decide_eq_true (by with_reducible assumption) | with_reducible rfl | assumption | rfl); (case a5x3 => first | with_reducible assumption | exact of_eq_true (by with_reducible assumption) | exact of_decide_eq_true (by with_reducible assumption) | with_reducible rfl | assumption | rfl); (case a6x3 => first | with_reducible assumption | exact of_eq_true (by with_reducible assumption) | exact of_decide_eq_true (by with_reducible assumption) | with_reducible rfl | assumption | rfl); (case a8x3 => first | with_reducible assumption | exact of_eq_true (by with_reducible assumption) | exact of_decide_eq_true (by with_reducible assumption) | with_reducible rfl | assumption | rfl); (case a10x3 => first | with_reducible assumption | exact of_eq_true (by with_reducible assumption) | exact of_decide_eq_true (by with_reducible assumption) | with_reducible rfl | assumption | rfl); (case a11x3 => first | with_reducible assumption | exact of_eq_true (by with_reducible assumption) | exact of_decide_eq_true (by with_reducible assumption) | with_reducible rfl | assumption | rfl); rintro e w134 ⟨rfl, hw⟩; have hg : wr.grownBy w134 (some go131) := (by rw [hw]; exact HP133.2); have hz_ : Kd.R (Kd.int .u64) 71 w134 w.heap.size oki133 (.slice (some ⟨go131, 0, none⟩) (rd_L4 x6_2 x17_2).length c353_0) y355 := (by rw [hw, Ny355.out]; exact HP133.1); have hp_ : Kd.S (Kd.slice 71 (Kd.int .u64)) 70 w134 w.heap.size (fun k_ => some k_ ≠ (v351 : Value).ownBlock ∧ k_ < hs383) (.slice (some ad353) x6_2.length co132) y357 := (by rw [Ny357.out]; exact hbk133 hg (fun k_ e_ => by injection e_ with e_; subst e_; exact ge133_0.1 _ rfl) (Kd.M_row hz_)); have hm_ := Kd.R_mono hz_ hok133; clear HP133 hbk133; have n0_ := Aside0.mk (hp_); have n1_ := Aside0.mk (Kd.S_step (by (with_reducible repeat (first | apply Kd.S_alloc | apply Kd.S_drewN | apply Kd.S_drew)); exact HO_16.out) (fun k_ (ho_ : (some k_ ≠ (.slice (some ad353) x6_2.length co132 : Value).ownBlock ∧ hs383 ≤ k_)) hlt_ => hg.block k_ hlt_ (fun he_ => absurd (Option.some.inj he_) (Nat.ne_of_gt (Nat.lt_of_lt_of_le ((HL353_0.out.1 _ rfl).1.2) (ho_.2)))))); have n2_ := Aside0.mk (blk_grown (g := gb293) (o := .cells #[.int .i64 a0_0, .int .i64 a0_1, .slice (some ad349) l0_2.length c0_2] 24 (0, 0)) (bK) hg (Kd.R_ne HL353_0.out BK293.out (by decide))); have n3_ := Aside0.mk ((by rw [hw]; exact below_set (HB.out) GB131.out : Below w.heap.size w w134)); have n4_ := Aside0.mk (hm_); have n5_ := Aside0.mk ((Kd.R_reads' hm_).2.1); clear HO_6; clear HO_16; clear BK293; clear HB; clear HL353_0; have HO_6 := n0_; have HO_16 := n1_; have BK293 := n2_; have HB := n3_; have HL384 := n4_; have HC356 := n5_; clear n0_ n1_ n2_ n3_ n4_ n5_; clear hg hw hp_ hz_ hm_ hok133))
 go_loopg [18] k2 (fun kq v18 w' => ∃ (x6_3 : List (List Int)) (x18_3 : Int), v18 = .int .i64 x18_3 ∧ Aside0 (expr_match.l7 kq (a1.size : Int) x6_3 t350 x17_2 x18_3 = some r) ∧ Aside0 (kq ≤ k2) ∧ Aside0 (Kd.S (Kd.slice 71 (Kd.int .u64)) 70 w' w.heap.size (fun k_ => some k_ ≠ (v351 : Value).ownBlock ∧ k_ < hs383) (.slice (some ad353) x6_2.length co132) x6_3) ∧ Aside0 (Kd.S (Kd.slice 71 (Kd.int .u64)) 70 w' w.heap.size (fun k_ => some k_ ≠ ((.slice (some ad353) x6_2.length co132) : Value).ownBlock ∧ hs383 ≤ k_) v351 t350) ∧ Aside0 (w'.heap[gb293]? = some (.cells #[.int .i64 a0_0, .int .i64 a0_1, (.slice (some ad349) l0_2.length c0_2)] 24 (0, 0))) ∧ Aside0 (Below w.heap.size w w'))
 case atStart => exact ⟨(y357), (wrap64 (x17_2 + 1)), (by first | rfl | (simp; done) | (simp [*]; done)), H', ⟨Nat.le_refl _⟩, ⟨by (with_reducible repeat (first | apply Kd.S_alloc | apply Kd.S_drewN | apply Kd.S_drew)); exact HO_6.out⟩, ⟨by (with_reducible repeat (first | apply Kd.S_alloc | apply Kd.S_drewN | apply Kd.S_drew)); exact HO_16.out⟩, ⟨bK⟩, ⟨bB⟩⟩
 clear H'
 try clear c8
 try clear c43
 try clear c97
 try clear c97b0
 try clear c97b1
 try clear c117
 try clear c117b0
 try clear c117b1
 try clear c118
 try clear c118b0
 try clear c118b1
 try clear c122
 try clear c122b0
 try clear c123
 try clear c123b0
 try clear c124
 try clear c124b0
 try clear c126
 try clear c126b0
 try clear c127
 try clear c127b0
 try clear c129
 try clear c129b0
 try clear c129b1
 try clear p131
 try clear q131
 try clear hcz120_0
 try clear hcz120_1
 try clear hcz120_2
 try clear hfz120_0
 try clear hfz120_1
 try clear hfz120_2
 try clear hx131_0
 try clear hx349_0
 try clear hx349_1
 try clear hx349_2
 try clear hx353_0
 try clear hx354_0
 try clear p131
 try clear p349
 try clear p353
 try clear p354
 try clear q131
 try clear q349
 try clear q353
 try clear q354
 obtain ⟨x6_3, x18_3, rfl, HA, HK3, HO_6, HO_16, BK293, HB⟩ := hrel
 have hl6_3 := (Kd.S_reads' HO_6.out).1
 rw [hl6_3] at HO_6
 (try simp only [hl6_3])
 (try simp only [hl6_3] at BK293)
 (try simp only [hl6_3] at HO_16)
 cases gk with
 | zero => exact absurd HA.out (by simp [expr_match.l7])
 | succ k3 => ?_
 have H := HA.out
 clear HA
 simp only [expr_match.l7] at H
 by_cases c135 : x18_3 ≤ (a1.size : Int)
 rotate_left
 ·rw [if_neg c135] at H
  have c135b0 : decide (x18_3 ≤ (a1.size : Int)) = false := decide_eq_false c135
  clear c135
  have H' := Aside0.mk H
  clear H
  go_wp2
  (try simp only [← hl6_3])
  (first | go_roundg k3 | ((simp only [add_plain] at *); go_roundg k3))
  case measure => have := HJ40.out; have := HK2.out; have := HK3.out; omega
  case rel => exact ⟨(x6_3), (wrap64 (x17_2 - 1)), (by first | rfl | (simp; done) | (simp [*]; done)), H', ⟨by have := HJ40.out; have := HK2.out; have := HK3.out; omega⟩, ⟨by (try simp only [hl6_3]); (with_reducible repeat (first | apply Kd.S_alloc | apply Kd.S_drewN | apply Kd.S_drew)); exact HO_6.out⟩, ⟨by (try simp only [hl6_3]); (with_reducible repeat (first | apply Kd.S_alloc | apply Kd.S_drewN | apply Kd.S_drew)); exact HO_16.out⟩, ⟨by (try simp only [hl6_3]); (with_reducible repeat (first | refine blk_drewN ?_ _ | refine blk_drew ?_ | refine blk_alloc ?_ _)); exact BK293.out⟩, ⟨bB⟩⟩
 rw [if_pos c135] at H
 have c135b0 : decide (x18_3 ≤ (a1.size : Int)) = true := decide_eq_true c135
 clear c135
 replace H := Option.bind_eq_some_iff.mp H
 obtain ⟨t358, A1360, H⟩ := H
 replace H : (if t358 = true then (if 0 ≤ x18_3 then (if x18_3 < (x6_3.length : Int) then (expr_match.l8 k3 (a1.size : Int) x6_3 t350 x17_2 x18_3 ((rd_L4 x6_3 x18_3).length : Int) 0) else (none)) else (none)) else (expr_match.l7 k3 (a1.size : Int) x6_3 t350 x17_2 (wrap64 (x18_3 + 1)))) = some r := H
 have A136 := Aside0.mk A1360
 clear A1360
 by_cases c137 : t358 = true
 rotate_left
 ·replace c137 := Bool.eq_false_iff.mpr c137
  subst c137
  have H1 : (expr_match.l7 k3 (a1.size : Int) x6_3 t350 x17_2 (wrap64 (x18_3 + 1))) = some r := by rw [if_neg (show ¬ (false = true) by decide)] at H; exact H
  clear H
  have H := H1
  clear H1
  have H' := Aside0.mk H
  clear H
  obtain ⟨Ao153, co153, eo153⟩ := Kd.S_slice HO_16.out
  subst eo153
  go_wp2_with (first | ((with_reducible refine gate_callee (f := 61) rfl ?_); refine goesL_ (some 192) rfl rfl Try.func61 (by kernel_rfl) rfl #[.slice Ao153 t350.length co153, .int .i64 x17_2, .int .i64 x18_3] rfl (by (try simp only [List.map_toArray, List.map_cons, List.map_nil]); first | done | rfl | (simp only [List.length_drop, List.length_take]; rfl) | (simp only [Int.ofNat_lt, Int.ofNat_le]; rfl)) ?_; (with_reducible refine (expr_spans_has.calls _ _ t350 x17_2 x18_3 false _ ?side1 ?side2 A136.out).mono ?_); (case side1 => repeat (first | exact (Kd.S_reads' HO_16.out).2.2 | (with_reducible refine Kd.C_alloc ?_ _) | (with_reducible refine Kd.C_drewN ?_ _) | (with_reducible refine Kd.C_drew ?_))); (case side2 => exact (Kd.S_reads' HO_16.out).2.1); rintro e w' ⟨rfl, ⟨nd, rfl⟩⟩; refine ⟨_, rfl, ?_⟩))
  (try simp only [← hl6_3])
  (first | go_roundg k3 | ((simp only [add_plain] at *); go_roundg k3))
  case measure => have := HJ40.out; have := HK2.out; have := HK3.out; omega
  case rel => exact ⟨(x6_3), (wrap64 (x18_3 + 1)), (by first | rfl | (simp; done) | (simp [*]; done)), H', ⟨by have := HJ40.out; have := HK2.out; have := HK3.out; omega⟩, ⟨by (try simp only [hl6_3]); (with_reducible repeat (first | apply Kd.S_alloc | apply Kd.S_drewN | apply Kd.S_drew)); exact HO_6.out⟩, ⟨by (try simp only [hl6_3]); (with_reducible repeat (first | apply Kd.S_alloc | apply Kd.S_drewN | apply Kd.S_drew)); exact HO_16.out⟩, ⟨by (try simp only [hl6_3]); (with_reducible repeat (first | refine blk_drewN ?_ _ | refine blk_drew ?_ | refine blk_alloc ?_ _)); exact BK293.out⟩, ⟨bB⟩⟩
 subst c137
 have H1 : (if 0 ≤ x18_3 then (if x18_3 < (x6_3.length : Int) then (expr_match.l8 k3 (a1.size : Int) x6_3 t350 x17_2 x18_3 ((rd_L4 x6_3 x18_3).length : Int) 0) else (none)) else (none)) = some r := by rw [if_pos rfl] at H; exact H
 clear H
 have H := H1
 clear H1
 by_cases c138 : 0 ≤ x18_3
 rotate_left
 ·rw [if_neg c138] at H
  exact absurd H (by simp)
 rw [if_pos c138] at H
 have c138b0 : decide (0 ≤ x18_3) = true := decide_eq_true c138
 clear c138
 by_cases c139 : x18_3 < (x6_3.length : Int)
 rotate_left
 ·rw [if_neg c139] at H
  exact absurd H (by simp)
 rw [if_pos c139] at H
 have c139b0 : decide (x18_3 < (x6_3.length : Int)) = true := decide_eq_true c139
 (try (have c139b0h := c139b0; simp only [hl6_3] at c139b0h))
 clear c139
 have H' := Aside0.mk H
 clear H
 obtain ⟨Ao140, co140, eo140⟩ := Kd.S_slice HO_16.out
 subst eo140
 go_wp2_with (first | ((with_reducible refine gate_callee (f := 61) rfl ?_); refine goesL_ (some 192) rfl rfl Try.func61 (by kernel_rfl) rfl #[.slice Ao140 t350.length co140, .int .i64 x17_2, .int .i64 x18_3] rfl (by (try simp only [List.map_toArray, List.map_cons, List.map_nil]); first | done | rfl | (simp only [List.length_drop, List.length_take]; rfl) | (simp only [Int.ofNat_lt, Int.ofNat_le]; rfl)) ?_; (with_reducible refine (expr_spans_has.calls _ _ t350 x17_2 x18_3 true _ ?side1 ?side2 A136.out).mono ?_); (case side1 => repeat (first | exact (Kd.S_reads' HO_16.out).2.2 | (with_reducible refine Kd.C_alloc ?_ _) | (with_reducible refine Kd.C_drewN ?_ _) | (with_reducible refine Kd.C_drew ?_))); (case side2 => exact (Kd.S_reads' HO_16.out).2.1); rintro e w' ⟨rfl, ⟨nd, rfl⟩⟩; refine ⟨_, rfl, ?_⟩; have p359 : 0 ≤ (x18_3 : Int) := of_decide_eq_true (by first | (with_reducible assumption) | assumption); have q359 : x18_3 < (x6_3.length : Int) := of_decide_eq_true (by first | (with_reducible assumption) | assumption); obtain ⟨ad359, A359_0, c359_0, e359, hx359_0, hl359_0, hi359_0⟩ := at_L4 (Kd.S_reads' HO_6.out).2.2 x18_3 p359 q359; obtain rfl : ad353 = ad359 := (by injection e359); obtain ⟨ce359, hce359, hMe359, hcc359⟩ := Kd.S_get HO_6.out [] x18_3 p359 (by first | exact q359 | exact of_decide_eq_true (by first | (with_reducible assumption) | assumption) | (have e_ := (Kd.S_reads' HO_6.out).1; omega)); obtain ⟨ve359_0, rfl, ge359_0⟩ := hMe359; have hv359_0 := hcc359 0 _ rfl; rw [Nat.add_zero, show ((Kd.slice 71 (Kd.int .u64))).sz = 1 from rfl, Nat.mul_one] at hv359_0; replace hv359_0 := Option.some.inj (hv359_0.symm.trans hx359_0); rw [hv359_0] at ge359_0; have HL359_0 := Aside0.mk (show Kd.R (Kd.int .u64) 71 _ _ _ _ (rd_L4 x6_3 x18_3) from ge359_0); clear hv359_0 ge359_0; have HX359_0 := Aside0.mk hx359_0; clear hcc359 hce359; have HR359_0 := Aside0.mk hi359_0; have HC359_0 := Aside0.mk hl359_0; clear hi359_0 hl359_0; replace p359 := eq_true p359; replace q359 := eq_true q359))
 go_loopg [198] k3 (fun kq v198 w' => ∃ (x6_4 : List (List Int)) (x198_4 : Int), v198 = .int .i64 x198_4 ∧ Aside0 (expr_match.l8 kq (a1.size : Int) x6_4 t350 x17_2 x18_3 ((rd_L4 x6_3 x18_3).length : Int) x198_4 = some r) ∧ Aside0 (kq ≤ k3) ∧ Aside0 (Kd.S (Kd.slice 71 (Kd.int .u64)) 70 w' w.heap.size (fun k_ => some k_ ≠ ((.slice Ao140 t350.length co140) : Value).ownBlock ∧ k_ < hs383) (.slice (some ad353) x6_3.length co132) x6_4) ∧ Aside0 (Kd.S (Kd.slice 71 (Kd.int .u64)) 70 w' w.heap.size (fun k_ => some k_ ≠ ((.slice (some ad353) x6_3.length co132) : Value).ownBlock ∧ hs383 ≤ k_) (.slice Ao140 t350.length co140) t350) ∧ Aside0 (w'.heap[gb293]? = some (.cells #[.int .i64 a0_0, .int .i64 a0_1, (.slice (some ad349) l0_2.length c0_2)] 24 (0, 0))) ∧ Aside0 (Below w.heap.size w w'))
 case atStart => exact ⟨(x6_3), (0), (by first | rfl | (simp; done) | (simp [*]; done)), H', ⟨Nat.le_refl _⟩, ⟨by (try simp only [hl6_3]); (with_reducible repeat (first | apply Kd.S_alloc | apply Kd.S_drewN | apply Kd.S_drew)); exact HO_6.out⟩, ⟨by (try simp only [hl6_3]); (with_reducible repeat (first | apply Kd.S_alloc | apply Kd.S_drewN | apply Kd.S_drew)); exact HO_16.out⟩, ⟨by (try simp only [hl6_3]); (with_reducible repeat (first | refine blk_drewN ?_ _ | refine blk_drew ?_ | refine blk_alloc ?_ _)); exact BK293.out⟩, ⟨bB⟩⟩
 clear H'
 try clear c8
 try clear c43
 try clear c97
 try clear c97b0
 try clear c97b1
 try clear c117
 try clear c117b0
 try clear c117b1
 try clear c118
 try clear c118b0
 try clear c118b1
 try clear c122
 try clear c122b0
 try clear c123
 try clear c123b0
 try clear c124
 try clear c124b0
 try clear c126
 try clear c126b0
 try clear c127
 try clear c127b0
 try clear c129
 try clear c129b0
 try clear c129b1
 try clear p131
 try clear q131
 try clear c135
 try clear c135b0
 try clear c137
 try clear c138
 try clear c138b0
 try clear c139
 try clear c139b0
 try clear hcz120_0
 try clear hcz120_1
 try clear hcz120_2
 try clear hfz120_0
 try clear hfz120_1
 try clear hfz120_2
 try clear hx131_0
 try clear hx349_0
 try clear hx349_1
 try clear hx349_2
 try clear hx353_0
 try clear hx354_0
 try clear hx359_0
 try clear p131
 try clear p349
 try clear p353
 try clear p354
 try clear p359
 try clear q131
 try clear q349
 try clear q353
 try clear q354
 try clear q359
 obtain ⟨x6_4, x198_4, rfl, HA, HK4, HO_6, HO_16, BK293, HB⟩ := hrel
 have hl6_4 := (Kd.S_reads' HO_6.out).1
 rw [hl6_4] at HO_6
 (try simp only [hl6_4])
 (try simp only [hl6_4] at BK293)
 (try simp only [hl6_4] at HO_16)
 cases gk with
 | zero => exact absurd HA.out (by simp [expr_match.l8])
 | succ k4 => ?_
 have H := HA.out
 clear HA
 simp only [expr_match.l8] at H
 by_cases c141 : x198_4 < ((rd_L4 x6_3 x18_3).length : Int)
 rotate_left
 ·rw [if_neg c141] at H
  have c141b0 : decide (x198_4 < ((rd_L4 x6_3 x18_3).length : Int)) = false := decide_eq_false c141
  (try (have c141b0h := c141b0; simp only [hl6_3, hl6_4] at c141b0h))
  clear c141
  have H' := Aside0.mk H
  clear H
  go_wp2
  (try simp only [← hl6_3, ← hl6_4])
  (first | go_roundg k4 | ((simp only [add_plain] at *); go_roundg k4))
  case measure => have := HJ40.out; have := HK2.out; have := HK3.out; have := HK4.out; omega
  case rel => exact ⟨(x6_4), (wrap64 (x18_3 + 1)), (by first | rfl | (simp; done) | (simp [*]; done)), H', ⟨by have := HJ40.out; have := HK2.out; have := HK3.out; have := HK4.out; omega⟩, ⟨by (try simp only [hl6_3]); (try simp only [hl6_4]); (with_reducible repeat (first | apply Kd.S_alloc | apply Kd.S_drewN | apply Kd.S_drew)); exact HO_6.out⟩, ⟨by (try simp only [hl6_3]); (try simp only [hl6_4]); (with_reducible repeat (first | apply Kd.S_alloc | apply Kd.S_drewN | apply Kd.S_drew)); exact HO_16.out⟩, ⟨by (try simp only [hl6_3]); (try simp only [hl6_4]); (with_reducible repeat (first | refine blk_drewN ?_ _ | refine blk_drew ?_ | refine blk_alloc ?_ _)); exact BK293.out⟩, ⟨bB⟩⟩
 rw [if_pos c141] at H
 have c141b0 : decide (x198_4 < ((rd_L4 x6_3 x18_3).length : Int)) = true := decide_eq_true c141
 (try (have c141b0h := c141b0; simp only [hl6_3, hl6_4] at c141b0h))
 clear c141
 by_cases c142 : 0 ≤ x17_2
 rotate_left
 ·rw [if_neg c142] at H
  exact absurd H (by simp)
 rw [if_pos c142] at H
 have c142b0 : decide (0 ≤ x17_2) = true := decide_eq_true c142
 clear c142
 by_cases c143 : x17_2 < (x6_4.length : Int)
 rotate_left
 ·rw [if_neg c143] at H
  exact absurd H (by simp)
 rw [if_pos c143] at H
 have c143b0 : decide (x17_2 < (x6_4.length : Int)) = true := decide_eq_true c143
 (try (have c143b0h := c143b0; simp only [hl6_3, hl6_4] at c143b0h))
 clear c143
 by_cases c144 : 0 ≤ x198_4
 rotate_left
 ·rw [if_neg c144] at H
  exact absurd H (by simp)
 rw [if_pos c144] at H
 have c144b0 : decide (0 ≤ x198_4) = true := decide_eq_true c144
 clear c144
 by_cases c145 : x198_4 < ((rd_L4 x6_4 x17_2).length : Int)
 rotate_left
 ·rw [if_neg c145] at H
  exact absurd H (by simp)
 rw [if_pos c145] at H
 have c145b0 : decide (x198_4 < ((rd_L4 x6_4 x17_2).length : Int)) = true := decide_eq_true c145
 (try (have c145b0h := c145b0; simp only [hl6_3, hl6_4] at c145b0h))
 clear c145
 by_cases c146 : 0 ≤ x18_3
 rotate_left
 ·rw [if_neg c146] at H
  exact absurd H (by simp)
 rw [if_pos c146] at H
 have c146b0 : decide (0 ≤ x18_3) = true := decide_eq_true c146
 clear c146
 by_cases c147 : x18_3 < (x6_4.length : Int)
 rotate_left
 ·rw [if_neg c147] at H
  exact absurd H (by simp)
 rw [if_pos c147] at H
 have c147b0 : decide (x18_3 < (x6_4.length : Int)) = true := decide_eq_true c147
 (try (have c147b0h := c147b0; simp only [hl6_3, hl6_4] at c147b0h))
 clear c147
 by_cases c148 : x198_4 < ((rd_L4 x6_4 x18_3).length : Int)
 rotate_left
 ·rw [if_neg c148] at H
  exact absurd H (by simp)
 rw [if_pos c148] at H
 have c148b0 : decide (x198_4 < ((rd_L4 x6_4 x18_3).length : Int)) = true := decide_eq_true c148
 (try (have c148b0h := c148b0; simp only [hl6_3, hl6_4] at c148b0h))
 clear c148
 obtain ⟨y364, hy364⟩ : ∃ y_ : List Int, y_ = ((rd_L4 x6_4 x17_2).set (x198_4 : Int).toNat (Go.bits .or .u64 (rd (rd_L4 x6_4 x17_2) x198_4) (rd (rd_L4 x6_4 x18_3) x198_4))) := ⟨_, rfl⟩
 replace H : (expr_match.l8 k4 (a1.size : Int) (x6_4.set (x17_2 : Int).toNat y364) t350 x17_2 x18_3 ((rd_L4 x6_3 x18_3).length : Int) (wrap64 (x198_4 + 1))) = some r := by first | (rw [hy364]; with_reducible exact H) | (have H2_ := (Option.bind_some _ _).symm.trans H; rw [hy364]; with_reducible exact H2_) | (have H2_ := (Option.bind_some _ _).symm.trans H; with_reducible exact H2_) | with_reducible exact H | (rw [hy364]; exact H) | exact H
 have Ny364 := Aside0.mk hy364
 clear hy364
 obtain ⟨y366, hy366⟩ : ∃ y_ : List (List Int), y_ = (x6_4.set (x17_2 : Int).toNat y364) := ⟨_, rfl⟩
 replace H : (expr_match.l8 k4 (a1.size : Int) y366 t350 x17_2 x18_3 ((rd_L4 x6_3 x18_3).length : Int) (wrap64 (x198_4 + 1))) = some r := by first | (rw [hy366]; with_reducible exact H) | (have H2_ := (Option.bind_some _ _).symm.trans H; rw [hy366]; with_reducible exact H2_) | (have H2_ := (Option.bind_some _ _).symm.trans H; with_reducible exact H2_) | with_reducible exact H | (rw [hy366]; exact H) | exact H
 have Ny366 := Aside0.mk hy366
 clear hy366
 have H' := Aside0.mk H
 clear H
 try go_wp2
 have n0_ := Aside0.mk (Kd.S_drew HO_6.out)
 have n1_ := Aside0.mk (Kd.S_drew HO_16.out)
 have n2_ := Aside0.mk (blk_drew BK293.out)
 have n3_ := Aside0.mk (below_drew1 HB.out)
 clear HO_6
 clear HO_16
 clear BK293
 clear HB
 have HO_6 := n0_
 have HO_16 := n1_
 have BK293 := n2_
 have HB := n3_
 clear n0_ n1_ n2_ n3_
 have p360 : 0 ≤ (x17_2 : Int) := of_decide_eq_true (by first | (with_reducible assumption) | assumption)
 have q360 : x17_2 < (x6_4.length : Int) := of_decide_eq_true (by first | (with_reducible assumption) | assumption)
 obtain ⟨ad360, A360_0, c360_0, e360, hx360_0, hl360_0, hi360_0⟩ := at_L4 (Kd.S_reads' HO_6.out).2.2 x17_2 p360 q360
 obtain rfl : ad353 = ad360 := (by injection e360)
 obtain ⟨ce360, hce360, hMe360, hcc360⟩ := Kd.S_get HO_6.out [] x17_2 p360 (by first | exact q360 | exact of_decide_eq_true (by first | (with_reducible assumption) | assumption) | (have e_ := (Kd.S_reads' HO_6.out).1; omega))
 obtain ⟨ve360_0, rfl, ge360_0⟩ := hMe360
 have hv360_0 := hcc360 0 _ rfl
 rw [Nat.add_zero, show ((Kd.slice 71 (Kd.int .u64))).sz = 1 from rfl, Nat.mul_one] at hv360_0
 replace hv360_0 := Option.some.inj (hv360_0.symm.trans hx360_0)
 rw [hv360_0] at ge360_0
 have HL360_0 := Aside0.mk (show Kd.R (Kd.int .u64) 71 _ _ _ _ (rd_L4 x6_4 x17_2) from ge360_0)
 clear hv360_0 ge360_0
 have HX360_0 := Aside0.mk hx360_0
 clear hcc360 hce360
 have HR360_0 := Aside0.mk hi360_0
 have HC360_0 := Aside0.mk hl360_0
 clear hi360_0 hl360_0
 replace p360 := eq_true p360
 replace q360 := eq_true q360
 have p361 : 0 ≤ (x198_4 : Int) := of_decide_eq_true (by first | (with_reducible assumption) | assumption)
 have q361 : x198_4 < ((rd_L4 x6_4 x17_2).length : Int) := of_decide_eq_true (by first | (with_reducible assumption) | assumption)
 obtain ⟨ad361, e361, hx361_0⟩ := Kd.at_int (by repeat (first | (with_reducible exact HR360_0.out) | (with_reducible refine Kd.C_alloc ?_ _) | (with_reducible refine Kd.C_drewN ?_ _) | (with_reducible refine Kd.C_drew ?_) | exact HR360_0.out)) x198_4 p361 q361
 cases e361
 replace p361 := eq_true p361
 replace q361 := eq_true q361
 have p362 : 0 ≤ (x18_3 : Int) := of_decide_eq_true (by first | (with_reducible assumption) | assumption)
 have q362 : x18_3 < (x6_4.length : Int) := of_decide_eq_true (by first | (with_reducible assumption) | assumption)
 obtain ⟨ad362, A362_0, c362_0, e362, hx362_0, hl362_0, hi362_0⟩ := at_L4 (Kd.S_reads' HO_6.out).2.2 x18_3 p362 q362
 obtain rfl : ad353 = ad362 := (by injection e362)
 obtain ⟨ce362, hce362, hMe362, hcc362⟩ := Kd.S_get HO_6.out [] x18_3 p362 (by first | exact q362 | exact of_decide_eq_true (by first | (with_reducible assumption) | assumption) | (have e_ := (Kd.S_reads' HO_6.out).1; omega))
 obtain ⟨ve362_0, rfl, ge362_0⟩ := hMe362
 have hv362_0 := hcc362 0 _ rfl
 rw [Nat.add_zero, show ((Kd.slice 71 (Kd.int .u64))).sz = 1 from rfl, Nat.mul_one] at hv362_0
 replace hv362_0 := Option.some.inj (hv362_0.symm.trans hx362_0)
 rw [hv362_0] at ge362_0
 have HL362_0 := Aside0.mk (show Kd.R (Kd.int .u64) 71 _ _ _ _ (rd_L4 x6_4 x18_3) from ge362_0)
 clear hv362_0 ge362_0
 have HX362_0 := Aside0.mk hx362_0
 clear hcc362 hce362
 have HR362_0 := Aside0.mk hi362_0
 have HC362_0 := Aside0.mk hl362_0
 clear hi362_0 hl362_0
 replace p362 := eq_true p362
 replace q362 := eq_true q362
 have p363 : 0 ≤ (x198_4 : Int) := of_decide_eq_true (by first | (with_reducible assumption) | assumption)
 have q363 : x198_4 < ((rd_L4 x6_4 x18_3).length : Int) := of_decide_eq_true (by first | (with_reducible assumption) | assumption)
 obtain ⟨ad363, e363, hx363_0⟩ := Kd.at_int (by repeat (first | (with_reducible exact HR362_0.out) | (with_reducible refine Kd.C_alloc ?_ _) | (with_reducible refine Kd.C_drewN ?_ _) | (with_reducible refine Kd.C_drew ?_) | exact HR362_0.out)) x198_4 p363 q363
 cases e363
 replace p363 := eq_true p363
 replace q363 := eq_true q363
 have p149 : 0 ≤ (x198_4 : Int) := of_decide_eq_true (by first | (with_reducible assumption) | assumption)
 have q149 : (x198_4 : Int) < (((rd_L4 x6_4 x17_2).length : Int) : Int) := of_decide_eq_true (by first | (with_reducible assumption) | assumption)
 obtain ⟨go149, co149, eo149, gb149, gl149, cl149, HG149⟩ := Kd.R_form HL360_0.out (by omega)
 (first | cases eo149 | (injection eo149 with ea_ en_ ec_; (first | subst ea_ | (injection ea_ with ea_; subst ea_)); subst ec_; clear en_))
 have GB149 := Aside0.mk gb149
 have GG149 := Aside0.mk HG149
 clear gb149 gl149 HG149
 (first | simp only [add_plain] at hx361_0 | skip)
 obtain ⟨hx149_0, hf149_0⟩ := Kd.R_celln 0 HL360_0.out (x198_4 : Int) p149 q149
 replace p149 := eq_true p149
 replace q149 := eq_true q149
 have hq151 : (x17_2 : Int) < (x6_4.length : Int) := (by have h_ : (x17_2 : Int) < ((x6_4.length : Int) : Int) := of_decide_eq_true (by first | (with_reducible assumption) | assumption); first | exact h_ | (have e_ := (Kd.S_reads' HO_6.out).1; omega) | simpa only [List.length_set, List.length_set] using h_)
 obtain ⟨oki151, ce151, hcl151, hM151, hcc151, hok151, hbk151⟩ := Kd.S_borrow HO_6.out [] (x17_2 : Int) (of_decide_eq_true (by first | (with_reducible assumption) | assumption)) hq151
 obtain ⟨ve151_0, rfl, ge151_0⟩ := hM151
 have hv151 := hcc151 0 _ rfl
 rw [Nat.add_zero, show ((Kd.slice 71 (Kd.int .u64))).sz = 1 from rfl, Nat.mul_one] at hv151
 replace hv151 := Option.some.inj (hv151.symm.trans HX360_0.out)
 subst hv151
 clear hcc151 hcl151
 replace ge151_0 := (show Kd.R (Kd.int .u64) 71 _ _ _ _ (rd_L4 x6_4 x17_2) from ge151_0)
 have HP151 := Kd.R_putg ge151_0 (x198_4 : Int) (Go.bits .or .u64 (rd (rd_L4 x6_4 x17_2) x198_4) (rd (rd_L4 x6_4 x18_3) x198_4))
 rw [← Ny364.out] at HP151
 have HS151 := hbk151 HP151.2 (fun k_ e_ => by injection e_ with e_; subst e_; exact ge151_0.1 _ rfl) (x' := y364) (Kd.M_row HP151.1)
 rw [← Ny366.out] at HS151
 have HQ151 := Aside0.mk HS151
 clear HP151 HS151 hbk151 hok151
 refine start_ (n := 17) (S := fun w' => w'.cell? (ad353.add (x17_2).toNat) = some (.slice (some ⟨go149, 0, none⟩) (rd_L4 x6_4 x17_2).length c360_0) ∧ w'.cell? ⟨go149, (x198_4).toNat, none⟩ = some (.int .u64 (rd (rd_L4 x6_4 x17_2) x198_4)) ∧ w'.cell? (ad353.add (x18_3).toNat) = some (.slice (some ad363) (rd_L4 x6_4 x18_3).length c362_0) ∧ w'.cell? (ad363.add (x198_4).toNat) = some (.int .u64 (rd (rd_L4 x6_4 x18_3) x198_4))) (ds := [16]) #[false, false, false, false, false, false, false, false, false, false, false, false, false, false, false, false, false] (by kernel_rfl) rfl rfl ⟨hx360_0, hx361_0, hx362_0, hx363_0⟩ (fun hHeld => ?_); refine with_tabW expr_match.tab56 expr_match.bits56 (fun HT_ HW_ => ?_)
 generalize wr.drew = w150 at HO_6 HO_16 BK293 HB GG149 HL360_0 HL362_0 HQ151 HR360_0 HR362_0 HX360_0 HX362_0 hf149_0 hx149_0 hx360_0 hx361_0 hx362_0 hx363_0 hHeld ⊢
 refine pure_ (i := 0) (N := some 201) (v := ?_) (a' := ?_) #[true, false, false, false, false, false, false, false, false, false, false, false, false, false, false, false, false] rfl rfl (any_of HT_.out (by kernel_rfl)) (fun _ _ _ h => h) (Or.inl ⟨by rfl, ?_⟩) ?_ ?_
 rotate_left
 ·intro w'
  go_simp
  with_reducible rfl
 rotate_left
 ·simp only [Act.put, List.setIfInBounds_toArray, List.set_cons_zero, List.set_cons_succ, i64_w, i32_w]
  rfl
 refine pure_ (i := 1) (N := some 202) (v := ?_) (a' := ?_) #[true, true, false, false, false, false, false, false, false, false, false, false, false, false, false, false, false] rfl rfl (any_of HT_.out (by kernel_rfl)) (fun _ _ _ h => h) (Or.inl ⟨by rfl, ?_⟩) ?_ ?_
 rotate_left
 ·intro w'
  go_simp
  with_reducible rfl
 rotate_left
 ·simp only [Act.put, List.setIfInBounds_toArray, List.set_cons_zero, List.set_cons_succ, i64_w, i32_w]
  rfl
 refine pure_ (i := 2) (N := some 203) (v := ?_) (a' := ?_) #[true, true, true, false, false, false, false, false, false, false, false, false, false, false, false, false, false] rfl rfl (any_of HT_.out (by kernel_rfl)) (fun _ _ _ h => h) (Or.inl ⟨by rfl, ?_⟩) ?_ ?_
 rotate_left
 ·intro w'
  go_simp
  with_reducible rfl
 rotate_left
 ·simp only [Act.put, List.setIfInBounds_toArray, List.set_cons_zero, List.set_cons_succ, i64_w, i32_w]
  rfl
 refine pure_ (i := 4) (N := some 205) (v := ?_) (a' := ?_) #[true, true, true, false, true, false, false, false, false, false, false, false, false, false, false, false, false] rfl rfl (any_of HT_.out (by kernel_rfl)) (fun _ _ _ h => h) (Or.inl ⟨by rfl, ?_⟩) ?_ ?_
 rotate_left
 ·intro w'
  go_simp
  with_reducible rfl
 rotate_left
 ·simp only [Act.put, List.setIfInBounds_toArray, List.set_cons_zero, List.set_cons_succ, i64_w, i32_w]
  rfl
 refine pure_ (i := 7) (N := some 208) (v := ?_) (a' := ?_) #[true, true, true, false, true, false, false, true, false, false, false, false, false, false, false, false, false] rfl rfl (any_of HT_.out (by kernel_rfl)) (fun _ _ _ h => h) (Or.inl ⟨by rfl, ?_⟩) ?_ ?_
 rotate_left
 ·intro w'
  go_simp
  with_reducible rfl
 rotate_left
 ·simp only [Act.put, List.setIfInBounds_toArray, List.set_cons_zero, List.set_cons_succ, i64_w, i32_w]
  rfl
 refine pure_ (i := 8) (N := some 209) (v := ?_) (a' := ?_) #[true, true, true, false, true, false, false, true, true, false, false, false, false, false, false, false, false] rfl rfl (any_of HT_.out (by kernel_rfl)) (fun _ _ _ h => h) (Or.inl ⟨by rfl, ?_⟩) ?_ ?_
 rotate_left
 ·intro w'
  go_simp
  with_reducible rfl
 rotate_left
 ·simp only [Act.put, List.setIfInBounds_toArray, List.set_cons_zero, List.set_cons_succ, i64_w, i32_w]
  rfl
 refine pure_ (i := 9) (N := some 210) (v := ?_) (a' := ?_) #[true, true, true, false, true, false, false, true, true, true, false, false, false, false, false, false, false] rfl rfl (any_of HT_.out (by kernel_rfl)) (fun _ _ _ h => h) (Or.inl ⟨by rfl, ?_⟩) ?_ ?_
 rotate_left
 ·intro w'
  go_simp
  with_reducible rfl
 rotate_left
 ·simp only [Act.put, List.setIfInBounds_toArray, List.set_cons_zero, List.set_cons_succ, i64_w, i32_w]
  rfl
 refine pure_ (i := 11) (N := some 212) (v := ?_) (a' := ?_) #[true, true, true, false, true, false, false, true, true, true, false, true, false, false, false, false, false] rfl rfl (any_of HT_.out (by kernel_rfl)) (fun _ _ _ h => h) (Or.inl ⟨by rfl, ?_⟩) ?_ ?_
 rotate_left
 ·intro w'
  go_simp
  with_reducible rfl
 rotate_left
 ·simp only [Act.put, List.setIfInBounds_toArray, List.set_cons_zero, List.set_cons_succ, i64_w, i32_w]
  rfl
 refine take_ (i := 3) (N := some 204) (v := ?_) (a' := ?_) #[true, true, true, true, true, false, false, true, true, true, false, true, false, false, false, false, false] rfl rfl (take_ofW HT_.out HW_.out (by kernel_rfl)) (fun _ _ _ h => h) (Or.inl ⟨by rfl, ?_⟩) hHeld ?_ ?_
 rotate_left
 ·rintro w' ⟨s0, s1, s2, s3⟩
  go_simp
  with_reducible rfl
 rotate_left
 ·simp only [Act.put, List.setIfInBounds_toArray, List.set_cons_zero, List.set_cons_succ, i64_w, i32_w]
  rfl
 refine pure_ (i := 5) (N := some 206) (v := ?_) (a' := ?_) #[true, true, true, true, true, true, false, true, true, true, false, true, false, false, false, false, false] rfl rfl (any_of HT_.out (by kernel_rfl)) (fun _ _ _ h => h) (Or.inl ⟨by rfl, ?_⟩) ?_ ?_
 rotate_left
 ·intro w'
  go_simp
  with_reducible rfl
 rotate_left
 ·simp only [Act.put, List.setIfInBounds_toArray, List.set_cons_zero, List.set_cons_succ, i64_w, i32_w]
  rfl
 refine take_ (i := 6) (N := some 207) (v := ?_) (a' := ?_) #[true, true, true, true, true, true, true, true, true, true, false, true, false, false, false, false, false] rfl rfl (take_ofW HT_.out HW_.out (by kernel_rfl)) (fun _ _ _ h => h) (Or.inl ⟨by rfl, ?_⟩) hHeld ?_ ?_
 rotate_left
 ·rintro w' ⟨s0, s1, s2, s3⟩
  go_simp
  with_reducible rfl
 rotate_left
 ·simp only [Act.put, List.setIfInBounds_toArray, List.set_cons_zero, List.set_cons_succ, i64_w, i32_w]
  rfl
 refine take_ (i := 10) (N := some 211) (v := ?_) (a' := ?_) #[true, true, true, true, true, true, true, true, true, true, true, true, false, false, false, false, false] rfl rfl (take_ofW HT_.out HW_.out (by kernel_rfl)) (fun _ _ _ h => h) (Or.inl ⟨by rfl, ?_⟩) hHeld ?_ ?_
 rotate_left
 ·rintro w' ⟨s0, s1, s2, s3⟩
  go_simp
  with_reducible rfl
 rotate_left
 ·simp only [Act.put, List.setIfInBounds_toArray, List.set_cons_zero, List.set_cons_succ, i64_w, i32_w]
  rfl
 refine pure_ (i := 12) (N := some 213) (v := ?_) (a' := ?_) #[true, true, true, true, true, true, true, true, true, true, true, true, true, false, false, false, false] rfl rfl (any_of HT_.out (by kernel_rfl)) (fun _ _ _ h => h) (Or.inl ⟨by rfl, ?_⟩) ?_ ?_
 rotate_left
 ·intro w'
  go_simp
  with_reducible rfl
 rotate_left
 ·simp only [Act.put, List.setIfInBounds_toArray, List.set_cons_zero, List.set_cons_succ, i64_w, i32_w]
  rfl
 refine take_ (i := 13) (N := some 214) (v := ?_) (a' := ?_) #[true, true, true, true, true, true, true, true, true, true, true, true, true, true, false, false, false] rfl rfl (take_ofW HT_.out HW_.out (by kernel_rfl)) (fun _ _ _ h => h) (Or.inl ⟨by rfl, ?_⟩) hHeld ?_ ?_
 rotate_left
 ·rintro w' ⟨s0, s1, s2, s3⟩
  go_simp
  with_reducible rfl
 rotate_left
 ·simp only [Act.put, List.setIfInBounds_toArray, List.set_cons_zero, List.set_cons_succ, i64_w, i32_w]
  rfl
 refine pure_ (i := 14) (N := some 215) (v := ?_) (a' := ?_) #[true, true, true, true, true, true, true, true, true, true, true, true, true, true, true, false, false] rfl rfl (any_of HT_.out (by kernel_rfl)) (fun _ _ _ h => h) (Or.inl ⟨by rfl, ?_⟩) ?_ ?_
 rotate_left
 ·intro w'
  go_simp
  with_reducible rfl
 rotate_left
 ·simp only [Act.put, List.setIfInBounds_toArray, List.set_cons_zero, List.set_cons_succ, i64_w, i32_w]
  rfl
 refine pure_ (i := 15) (N := some 216) (v := ?_) (a' := ?_) #[true, true, true, true, true, true, true, true, true, true, true, true, true, true, true, true, false] rfl rfl (any_of HT_.out (by kernel_rfl)) (fun _ _ _ h => h) (Or.inl ⟨by rfl, ?_⟩) ?_ ?_
 rotate_left
 ·intro w'
  go_simp
  with_reducible rfl
 rotate_left
 ·simp only [Act.put, List.setIfInBounds_toArray, List.set_cons_zero, List.set_cons_succ, i64_w, i32_w]
  rfl
 refine last_ (i := 16) (N := none) #[true, true, true, true, true, true, true, true, true, true, true, true, true, true, true, true, true] rfl rfl (one_of HT_.out (by kernel_rfl)) (by decide) (fun K hK => ?_)
 refine skip_ (w1 := ?_) (by rfl) rfl ?_ ?_
 rotate_left
 ·go_simp
  rfl
 refine hK.out _ _ ?_
 clear hK K
 refine done_ (done_of HT_.out (by kernel_rfl)) ?_
 try go_wp2
 (try simp only [← hl6_4])
 (first | go_roundg k4 | ((simp only [add_plain] at *); go_roundg k4))
 case measure => have := HJ40.out; have := HK2.out; have := HK3.out; have := HK4.out; omega
 case rel => exact ⟨(y366), (wrap64 (x198_4 + 1)), (by first | rfl | (simp; done) | (simp [*]; done)), H', ⟨by have := HJ40.out; have := HK2.out; have := HK3.out; have := HK4.out; omega⟩, ⟨by (try simp only [hl6_3]); (try simp only [hl6_4]); (with_reducible repeat (first | apply Kd.S_alloc | apply Kd.S_drewN | apply Kd.S_drew)); exact HQ151.out⟩, ⟨by (try simp only [hl6_3]); (try simp only [hl6_4]); (with_reducible repeat (first | apply Kd.S_alloc | apply Kd.S_drewN | apply Kd.S_drew)); exact Kd.S_mono (Kd.S_far (p := ⟨go149, (x198_4 : Int).toNat, none⟩) (Kd.S_mono HO_16.out (fun k_ hk => (⟨hk, (Nat.ne_of_gt (Nat.lt_of_lt_of_le ((HL360_0.out.1 _ rfl).1.2) (hk.2)))⟩ : _ ∧ k_ ≠ go149))) (fun _ hk => hk.2) (.int .u64 (Go.bits .or .u64 (rd (rd_L4 x6_4 x17_2) x198_4) (rd (rd_L4 x6_4 x18_3) x198_4)))) (fun _ hk => ⟨hk.1.1, hk.1.2⟩)⟩, ⟨by (try simp only [hl6_3]); (try simp only [hl6_4]); (with_reducible repeat (first | refine blk_drewN ?_ _ | refine blk_drew ?_ | refine blk_alloc ?_ _)); refine blk_far ?_ (by have h_ := Kd.R_ne HL360_0.out BK293.out (by decide); intro e_; exact h_ (by rw [e_]; rfl)) _; (with_reducible repeat (first | refine blk_drewN ?_ _ | refine blk_drew ?_ | refine blk_alloc ?_ _)); exact BK293.out⟩, ⟨by repeat (first | (with_reducible first | exact HB.out | apply below_alloc | apply pw_below_drewN | apply below_drew1 | refine below_set ?_ GB149.out | refine below_set ?_ GE293.out) | exact HB.out)⟩⟩
end Go.Proofs.Ytjofkebiacaciaa.PAll
