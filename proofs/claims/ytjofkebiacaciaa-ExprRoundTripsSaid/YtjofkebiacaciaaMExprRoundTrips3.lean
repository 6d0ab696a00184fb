/- The functions that the laws of this seat reach, a proof for each that the Go code comes to them, and the plain laws; merged. Conditions: none beside those of the given statements. -/
import Derived.Test.YtjofkebiacaciaaMc14
import Derived.Test.YtjofkebiacaciaaMExprRoundTrips2
import Derived.Test.YtjofkebiacaciaaMExprRoundTrips1
import Derived.Test.YtjofkebiacaciaaMc16
section
namespace Go.Proofs.Ytjofkebiacaciaa.PAll
open Go.RowKit Go.Proofs.YtjofkebiacaciaaW.PrintWords Go.Proofs.YtjofkebiacaciaaW.PrintLast Go.Proofs.YtjofkebiacaciaaW.PrintMore
attribute [local go_sem] max2_int min2_int max_two min_two max_three min_three max_four min_four
set_option linter.unusedVariables false
set_option linter.unusedSimpArgs false
mutual
def simplify_Compare.l0 : Nat → Int → Int → Int → List (S24) → Int → Int → List (S24) → Option (Int)
 | 0, _, _, _, _, _, _, _ => none
 | k + 1, x7, x347000, x347001, x347002, x348000, x348001, x348002 => if x7 < (x347002.length : Int) then (simplify_Compare.j1 k x7 (decide (x7 < (x348002.length : Int))) x347000 x347001 x347002 x348000 x348001 x348002) else (simplify_Compare.j1 k x7 false x347000 x347001 x347002 x348000 x348001 x348002)
def simplify_Compare.j1 : Nat → Int → Bool → Int → Int → List (S24) → Int → Int → List (S24) → Option (Int)
 | 0, _, _, _, _, _, _, _, _ => none
 | k + 1, x7, x36, x347000, x347001, x347002, x348000, x348001, x348002 => if x36 = true then (if 0 ≤ x7 then (if x7 < (x347002.length : Int) then (if x7 < (x348002.length : Int) then ((simplify_Compare.f k ((rd_T24 x347002 x7).f0) ((rd_T24 x347002 x7).f1) ((rd_T24 x347002 x7).f2) ((rd_T24 x348002 x7).f0) ((rd_T24 x348002 x7).f1) ((rd_T24 x348002 x7).f2)).bind fun t352 => (if t352 = 0 then (simplify_Compare.l0 k (wrap64 (x7 + 1)) x347000 x347001 x347002 x348000 x348001 x348002) else (some t352))) else (none)) else (none)) else (none)) else ((simplify_order.f (x347002.length : Int) (x348002.length : Int)).bind fun t353 => (some t353))
def simplify_Compare.f : Nat → Int → Int → List (S24) → Int → Int → List (S24) → Option (Int)
 | 0, _, _, _, _, _, _ => none
 | k + 1, a0_0, a0_1, l0_2, a1_0, a1_1, l1_2 => (simplify_order.f a0_0 a1_0).bind fun t348 => (if t348 = 0 then ((simplify_order.f a0_1 a1_1).bind fun t349 => (if t349 = 0 then (simplify_Compare.l0 k 0 a0_0 a0_1 l0_2 a1_0 a1_1 l1_2) else (some t349))) else (some t348))
end
theorem simplify_Compare.mono_l : ∀ k, (∀ y0 y1 y2 y3 y4 y5, LeO (simplify_Compare.f k y0 y1 y2 y3 y4 y5) (simplify_Compare.f (k + 1) y0 y1 y2 y3 y4 y5)) ∧ (∀ y0 y1 y2 y3 y4 y5 y6, LeO (simplify_Compare.l0 k y0 y1 y2 y3 y4 y5 y6) (simplify_Compare.l0 (k + 1) y0 y1 y2 y3 y4 y5 y6)) ∧ (∀ y0 y1 y2 y3 y4 y5 y6 y7, LeO (simplify_Compare.j1 k y0 y1 y2 y3 y4 y5 y6 y7) (simplify_Compare.j1 (k + 1) y0 y1 y2 y3 y4 y5 y6 y7))
 | 0 => ⟨fun _ _ _ _ _ _ r h => by simp [simplify_Compare.f] at h, fun _ _ _ _ _ _ _ r h => by simp [simplify_Compare.l0] at h, fun _ _ _ _ _ _ _ _ r h => by simp [simplify_Compare.j1] at h⟩
 | k + 1 => by
  obtain ⟨ih0, ih1, ih2⟩ := simplify_Compare.mono_l k
  refine ⟨?_, ?_, ?_⟩
  ·intro y0 y1 y2 y3 y4 y5
   unfold simplify_Compare.f
   repeat' first
   | (with_reducible exact ih0 _ _ _ _ _ _)
   | (with_reducible exact ih1 _ _ _ _ _ _ _)
   | (with_reducible exact ih2 _ _ _ _ _ _ _ _)
   | (with_reducible exact LeO.refl _)
   | (with_reducible exact LeO.none _)
   | (with_reducible refine LeO.ite ?_ ?_)
   | (with_reducible refine LeO.bind ?_ (fun _ => ?_))
   | exact ih0 _ _ _ _ _ _
   | exact ih1 _ _ _ _ _ _ _
   | exact ih2 _ _ _ _ _ _ _ _
   | exact LeO.none _
   | refine LeO.ite ?_ ?_
   | refine LeO.bind ?_ (fun _ => ?_)
  ·intro y0 y1 y2 y3 y4 y5 y6
   unfold simplify_Compare.l0
   repeat' first
   | (with_reducible exact ih0 _ _ _ _ _ _)
   | (with_reducible exact ih1 _ _ _ _ _ _ _)
   | (with_reducible exact ih2 _ _ _ _ _ _ _ _)
   | (with_reducible exact LeO.refl _)
   | (with_reducible exact LeO.none _)
   | (with_reducible refine LeO.ite ?_ ?_)
   | (with_reducible refine LeO.bind ?_ (fun _ => ?_))
   | exact ih0 _ _ _ _ _ _
   | exact ih1 _ _ _ _ _ _ _
   | exact ih2 _ _ _ _ _ _ _ _
   | exact LeO.none _
   | refine LeO.ite ?_ ?_
   | refine LeO.bind ?_ (fun _ => ?_)
  ·intro y0 y1 y2 y3 y4 y5 y6 y7
   unfold simplify_Compare.j1
   repeat' first
   | (with_reducible exact ih0 _ _ _ _ _ _)
   | (with_reducible exact ih1 _ _ _ _ _ _ _)
   | (with_reducible exact ih2 _ _ _ _ _ _ _ _)
   | (with_reducible exact LeO.refl _)
   | (with_reducible exact LeO.none _)
   | (with_reducible refine LeO.ite ?_ ?_)
   | (with_reducible refine LeO.bind ?_ (fun _ => ?_))
   | exact ih0 _ _ _ _ _ _
   | exact ih1 _ _ _ _ _ _ _
   | exact ih2 _ _ _ _ _ _ _ _
   | exact LeO.none _
   | refine LeO.ite ?_ ?_
   | refine LeO.bind ?_ (fun _ => ?_)
theorem simplify_Compare.mono : ∀ a0 a1 a2 a3 a4 a5 k, LeO (simplify_Compare.f k a0 a1 a2 a3 a4 a5) (simplify_Compare.f (k + 1) a0 a1 a2 a3 a4 a5) := by
 intro a0 a1 a2 a3 a4 a5 k
 obtain ⟨ih0, ih1, ih2⟩ := simplify_Compare.mono_l k
 exact ih0 a0 a1 a2 a3 a4 a5
def simplify_Compare.T10 : Bool × List (List Nat × List Nat) := (true, [([], []), ([0], [0]), ([], []), ([1, 2], [1, 2]), ([3], [3]), ([], []), ([5], [5]), ([], []), ([6, 7], [6, 7]), ([8], [8]), ([4, 9], [4, 9]), ([10, 10, 0, 1, 2, 3, 4, 5, 6, 7, 8, 9, 10], [10])])
def simplify_Compare.B10 : List Nat := [0, 1, 0, 7, 15, 0, 32, 0, 224, 480, 1023, 2047]
theorem simplify_Compare.tab10 : rtab .any (opsOf Try.f52 10) = simplify_Compare.T10 := by kernel_rfl
theorem simplify_Compare.bits10 : waitsOk simplify_Compare.T10.2 simplify_Compare.B10 = true := by kernel_rfl
set_option maxHeartbeats 8000000 in
set_option maxRecDepth 100000 in
theorem simplify_Compare.calls (k : Nat) : ∀ (a0_0 : Int) (a0_1 : Int) (A0_2 : Option Addr) (c0_2 : Nat) (l0_2 : List (S24)) (a1_0 : Int) (a1_1 : Int) (A1_2 : Option Addr) (c1_2 : Nat) (l1_2 : List (S24)) (r : Int) (w : World) (hr0_2 : Kd.C k24 w A0_2 l0_2.length l0_2) (hc0_2 : l0_2.length ≤ c0_2) (hr1_2 : Kd.C k24 w A1_2 l1_2.length l1_2) (hc1_2 : l1_2.length ≤ c1_2) (h : simplify_Compare.f k a0_0 a0_1 l0_2 a1_0 a1_1 l1_2 = some r),
  Calls Try.prog 52 #[.agg #[.int .i64 a0_0, .int .i64 a0_1, .slice A0_2 l0_2.length c0_2], .agg #[.int .i64 a1_0, .int .i64 a1_1, .slice A1_2 l1_2.length c1_2]] w fun e w' => e = .returned (.int .i64 r) ∧ Below w.heap.size w w' := by
 induction k using Nat.strongRecOn with
 | _ k ih =>
 intro a0_0 a0_1 A0_2 c0_2 l0_2 a1_0 a1_1 A1_2 c1_2 l1_2 r w hr0_2 hc0_2 hr1_2 hc1_2 h
 cases k with
 | zero => exact absurd h (by simp [simplify_Compare.f])
 | succ k =>
 simp only [simplify_Compare.f] at h
 have hu24 := Try.underlying24
 have HR0_2 := Aside0.mk hr0_2
 have HC0_2 := Aside0.mk hc0_2
 clear hr0_2 hc0_2
 have HR1_2 := Aside0.mk hr1_2
 have HC1_2 := Aside0.mk hc1_2
 clear hr1_2 hc1_2
 have HB := Aside0.mk (Below.refl w.heap.size w)
 have H : ((simplify_order.f a0_0 a1_0).bind fun t348 => (if t348 = 0 then ((simplify_order.f a0_1 a1_1).bind fun t349 => (if t349 = 0 then (simplify_Compare.l0 k 0 a0_0 a0_1 l0_2 a1_0 a1_1 l1_2) else (some t349))) else (some t348))) = some r := h
 clear h
 replace H := Option.bind_eq_some_iff.mp H
 obtain ⟨t348, A30, H⟩ := H
 replace H : (if t348 = 0 then ((simplify_order.f a0_1 a1_1).bind fun t349 => (if t349 = 0 then (simplify_Compare.l0 k 0 a0_0 a0_1 l0_2 a1_0 a1_1 l1_2) else (some t349))) else (some t348)) = some r := H
 have A3 := Aside0.mk A30
 clear A30
 by_cases c4 : t348 = 0
 ·rw [if_pos c4] at H
  have c4b0 : (t348 == 0) = true := beq_iff_eq.mpr c4
  have c4b1 : (t348 != 0) = false := bne_eq_false_iff_eq.mpr c4
  clear c4
  replace H := Option.bind_eq_some_iff.mp H
  obtain ⟨t349, A50, H⟩ := H
  replace H : (if t349 = 0 then (simplify_Compare.l0 k 0 a0_0 a0_1 l0_2 a1_0 a1_1 l1_2) else (some t349)) = some r := H
  have A5 := Aside0.mk A50
  clear A50
  by_cases c6 : t349 = 0
  ·rw [if_pos c6] at H
   have c6b0 : (t349 == 0) = true := beq_iff_eq.mpr c6
   have c6b1 : (t349 != 0) = false := bne_eq_false_iff_eq.mpr c6
   clear c6
   have H' := Aside0.mk H
   clear H
   go_enter Try.func52, Try.ntmps52
   go_wp2_with (first | ((with_reducible refine gate_dst (N := 2) rfl ?_); (try (refine gate_guard (by rfl) ?_; dsimp only)); refine box_event ?hg (N := 2) ?hd (cs := #[.int .i64 a0_0, .int .i64 a0_1, .slice A0_2 l0_2.length c0_2]) (t := 24) ?hr ?_; (case hd => rfl); (case hg => rfl); (case hr => first | (go_simp; done) | (go_simp; rfl)); intro gb346 hg w7 hbox hb; have n0_ := Aside0.mk (below_step (bB) hb); have n1_ := Aside0.mk (hbox); have n2_ := Aside0.mk ((by rw [hg]; exact (below_size (bB)) : w.heap.size ≤ gb346)); have n3_ := Aside0.mk ((by rw [hg]; exact (below_size (bB)) : w.heap.size ≤ gb346)); clear HB; have HB := n0_; have BK346 := n1_; have GW346 := n2_; have GE346 := n3_; clear n0_ n1_ n2_ n3_; clear hb hbox hg) | ((with_reducible refine gate_dst (N := 3) rfl ?_); (try (refine gate_guard (by rfl) ?_; dsimp only)); refine box_event ?hg (N := 3) ?hd (cs := #[.int .i64 a1_0, .int .i64 a1_1, .slice A1_2 l1_2.length c1_2]) (t := 24) ?hr ?_; (case hd => rfl); (case hg => rfl); (case hr => first | (go_simp; done) | (go_simp; rfl)); intro gb347 hg w8 hbox hb; have n0_ := Aside0.mk (blk_below (g := gb346) (o := .cells #[.int .i64 a0_0, .int .i64 a0_1, .slice A0_2 l0_2.length c0_2] 24 (0, 0)) (bK) hb); have n1_ := Aside0.mk (below_step (bB) hb); have n2_ := Aside0.mk (hbox); have n3_ := Aside0.mk ((by rw [hg]; exact (below_size (bB)) : w.heap.size ≤ gb347)); have n4_ := Aside0.mk ((by rw [hg]; exact (below_size (bB)) : w.heap.size ≤ gb347)); have n5_ := Aside0.mk ((by rw [hg]; exact Nat.ne_of_lt (blk_lt (g := gb346) (o := .cells #[.int .i64 a0_0, .int .i64 a0_1, .slice A0_2 l0_2.length c0_2] 24 (0, 0)) (bK)) : gb346 ≠ gb347)); have n6_ := Aside0.mk ((by rw [hg]; exact Nat.ne_of_gt (blk_lt (g := gb346) (o := .cells #[.int .i64 a0_0, .int .i64 a0_1, .slice A0_2 l0_2.length c0_2] 24 (0, 0)) (bK)) : gb347 ≠ gb346)); clear BK346; clear HB; have BK346 := n0_; have HB := n1_; have BK347 := n2_; have GW347 := n3_; have GE347 := n4_; have NB346_347 := n5_; have NB347_346 := n6_; clear n0_ n1_ n2_ n3_ n4_ n5_ n6_; clear hb hbox hg; have hnb9 := NB346_347.out; have hnc9 := NB347_346.out; have hcz10_0 : w8.cell? ⟨gb346, 0, none⟩ = some (.int .i64 a0_0) := (blk_cell BK346.out 0).trans rfl; have hcz10_1 : w8.cell? ⟨gb346, 1, none⟩ = some (.int .i64 a0_1) := (blk_cell BK346.out 1).trans rfl; have hcz10_2 : w8.cell? ⟨gb346, 2, none⟩ = some (.slice A0_2 l0_2.length c0_2) := (blk_cell BK346.out 2).trans rfl; have hfz10_0 := blk_frozen BK346.out 0; have hfz10_1 := blk_frozen BK346.out 1; have hfz10_2 := blk_frozen BK346.out 2; have hcz11_0 : w8.cell? ⟨gb347, 0, none⟩ = some (.int .i64 a1_0) := (blk_cell BK347.out 0).trans rfl; have hcz11_1 : w8.cell? ⟨gb347, 1, none⟩ = some (.int .i64 a1_1) := (blk_cell BK347.out 1).trans rfl; have hcz11_2 : w8.cell? ⟨gb347, 2, none⟩ = some (.slice A1_2 l1_2.length c1_2) := (blk_cell BK347.out 2).trans rfl; have hfz11_0 := blk_frozen BK347.out 0; have hfz11_1 := blk_frozen BK347.out 1; have hfz11_2 := blk_frozen BK347.out 2) | ((with_reducible refine gate_callee (f := 73) rfl ?_); refine goesL_ (some 13) rfl rfl Try.func73 (by kernel_rfl) rfl #[.int .i64 a0_0, .int .i64 a1_0] rfl (by (try simp only [List.map_toArray, List.map_cons, List.map_nil]); first | done | rfl | (simp only [List.length_drop, List.length_take]; rfl) | (simp only [Int.ofNat_lt, Int.ofNat_le]; rfl)) ?_; (with_reducible refine (simplify_order.calls a0_0 a1_0 t348 _ A3.out).mono ?_); rintro e w' ⟨rfl, ⟨nd, rfl⟩⟩; refine ⟨_, rfl, ?_⟩) | ((with_reducible refine gate_callee (f := 73) rfl ?_); refine goesL_ (some 21) rfl rfl Try.func73 (by kernel_rfl) rfl #[.int .i64 a0_1, .int .i64 a1_1] rfl (by (try simp only [List.map_toArray, List.map_cons, List.map_nil]); first | done | rfl | (simp only [List.length_drop, List.length_take]; rfl) | (simp only [Int.ofNat_lt, Int.ofNat_le]; rfl)) ?_; (with_reducible refine (simplify_order.calls a0_1 a1_1 t349 _ A5.out).mono ?_); rintro e w' ⟨rfl, ⟨nd, rfl⟩⟩; refine ⟨_, rfl, ?_⟩))
   go_loopg [7] k (fun kq v7 w' => ∃ (x7_1 : Int), v7 = .int .i64 x7_1 ∧ Aside0 (simplify_Compare.l0 kq x7_1 a0_0 a0_1 l0_2 a1_0 a1_1 l1_2 = some r) ∧ Aside0 (kq ≤ k) ∧ Aside0 (w'.heap[gb346]? = some (.cells #[.int .i64 a0_0, .int .i64 a0_1, (.slice A0_2 l0_2.length c0_2)] 24 (0, 0))) ∧ Aside0 (w'.heap[gb347]? = some (.cells #[.int .i64 a1_0, .int .i64 a1_1, (.slice A1_2 l1_2.length c1_2)] 24 (0, 0))) ∧ Aside0 (Below w.heap.size w w'))
   case atStart => exact ⟨(0), (by first | rfl | (simp; done) | (simp [*]; done)), H', ⟨Nat.le_refl _⟩, ⟨bK⟩, ⟨bK⟩, ⟨bB⟩⟩
   case round =>
    clear H'
    try clear c1
    try clear p2
    try clear c4
    try clear c4b0
    try clear c4b1
    try clear c5
    try clear c6
    try clear c6b0
    try clear c6b1
    try clear c7
    try clear c9
    try clear hcz10_0
    try clear hcz10_1
    try clear hcz10_2
    try clear hcz11_0
    try clear hcz11_1
    try clear hcz11_2
    try clear hfz10_0
    try clear hfz10_1
    try clear hfz10_2
    try clear hfz11_0
    try clear hfz11_1
    try clear hfz11_2
    obtain ⟨x7_1, rfl, HA, HK1, BK346, BK347, HB⟩ := hrel
    cases gk with
    | zero => exact absurd HA.out (by simp [simplify_Compare.l0])
    | succ k1 =>
     have H := HA.out
     clear HA
     simp only [simplify_Compare.l0] at H
     have HC12 := Aside0.mk H
     clear H
     go_upto_region 8 with (fail)
     go_cut [36] (fun v36 wc => ∃ (kq : Nat) (x36_11 : Bool), v36 = .bool x36_11 ∧ Aside0 (simplify_Compare.j1 kq x7_1 x36_11 a0_0 a0_1 l0_2 a1_0 a1_1 l1_2 = some r) ∧ Aside0 (kq ≤ k1) ∧ Aside0 (wc.heap[gb346]? = some (.cells #[.int .i64 a0_0, .int .i64 a0_1, (.slice A0_2 l0_2.length c0_2)] 24 (0, 0))) ∧ Aside0 (wc.heap[gb347]? = some (.cells #[.int .i64 a1_0, .int .i64 a1_1, (.slice A1_2 l1_2.length c1_2)] 24 (0, 0))) ∧ Aside0 (Below w.heap.size w wc))
     case first =>
      have H := HC12.out
      clear HC12
      by_cases c13 : x7_1 < (l0_2.length : Int)
      ·rw [if_pos c13] at H
       have c13b0 : decide (x7_1 < (l0_2.length : Int)) = true := decide_eq_true c13
       clear c13
       (first | rw [c13b0] | (simp only [i64_w, i32_w]; rw [c13b0]) | skip)
       have H' := Aside0.mk H
       clear H
       have hnb14 := NB346_347.out
       have hnc14 := NB347_346.out
       have hcz15_0 : wr.cell? ⟨gb346, 0, none⟩ = some (.int .i64 a0_0) := (blk_cell BK346.out 0).trans rfl
       have hcz15_1 : wr.cell? ⟨gb346, 1, none⟩ = some (.int .i64 a0_1) := (blk_cell BK346.out 1).trans rfl
       have hcz15_2 : wr.cell? ⟨gb346, 2, none⟩ = some (.slice A0_2 l0_2.length c0_2) := (blk_cell BK346.out 2).trans rfl
       have hfz15_0 := blk_frozen BK346.out 0
       have hfz15_1 := blk_frozen BK346.out 1
       have hfz15_2 := blk_frozen BK346.out 2
       have hcz16_0 : wr.cell? ⟨gb347, 0, none⟩ = some (.int .i64 a1_0) := (blk_cell BK347.out 0).trans rfl
       have hcz16_1 : wr.cell? ⟨gb347, 1, none⟩ = some (.int .i64 a1_1) := (blk_cell BK347.out 1).trans rfl
       have hcz16_2 : wr.cell? ⟨gb347, 2, none⟩ = some (.slice A1_2 l1_2.length c1_2) := (blk_cell BK347.out 2).trans rfl
       have hfz16_0 := blk_frozen BK347.out 0
       have hfz16_1 := blk_frozen BK347.out 1
       have hfz16_2 := blk_frozen BK347.out 2
       go_wp2
       go_meet
       case rel => exact ⟨_, (decide (x7_1 < (l1_2.length : Int))), (by first | rfl | (simp; done) | (simp [*]; done)), H', ⟨by have := HK1.out; first | omega | exact Nat.le_refl _⟩, ⟨bK⟩, ⟨bK⟩, ⟨bB⟩⟩
      ·rw [if_neg c13] at H
       have c13b0 : decide (x7_1 < (l0_2.length : Int)) = false := decide_eq_false c13
       clear c13
       (first | rw [c13b0] | (simp only [i64_w, i32_w]; rw [c13b0]) | skip)
       have H' := Aside0.mk H
       clear H
       have hnb17 := NB346_347.out
       have hnc17 := NB347_346.out
       have hcz18_0 : wr.cell? ⟨gb346, 0, none⟩ = some (.int .i64 a0_0) := (blk_cell BK346.out 0).trans rfl
       have hcz18_1 : wr.cell? ⟨gb346, 1, none⟩ = some (.int .i64 a0_1) := (blk_cell BK346.out 1).trans rfl
       have hcz18_2 : wr.cell? ⟨gb346, 2, none⟩ = some (.slice A0_2 l0_2.length c0_2) := (blk_cell BK346.out 2).trans rfl
       have hfz18_0 := blk_frozen BK346.out 0
       have hfz18_1 := blk_frozen BK346.out 1
       have hfz18_2 := blk_frozen BK346.out 2
       go_wp2
       go_meet
       case rel => exact ⟨_, (false), (by first | rfl | (simp; done) | (simp [*]; done)), H', ⟨by have := HK1.out; first | omega | exact Nat.le_refl _⟩, ⟨bK⟩, ⟨bK⟩, ⟨bB⟩⟩
     case rest =>
      clear HC12
      try clear c1
      try clear p2
      try clear c4
      try clear c4b0
      try clear c4b1
      try clear c5
      try clear c6
      try clear c6b0
      try clear c6b1
      try clear c7
      try clear c9
      try clear c13
      try clear c13b0
      try clear c14
      try clear c17
      try clear hcz10_0
      try clear hcz10_1
      try clear hcz10_2
      try clear hcz11_0
      try clear hcz11_1
      try clear hcz11_2
      try clear hcz15_0
      try clear hcz15_1
      try clear hcz15_2
      try clear hcz16_0
      try clear hcz16_1
      try clear hcz16_2
      try clear hcz18_0
      try clear hcz18_1
      try clear hcz18_2
      try clear hfz10_0
      try clear hfz10_1
      try clear hfz10_2
      try clear hfz11_0
      try clear hfz11_1
      try clear hfz11_2
      try clear hfz15_0
      try clear hfz15_1
      try clear hfz15_2
      try clear hfz16_0
      try clear hfz16_1
      try clear hfz16_2
      try clear hfz18_0
      try clear hfz18_1
      try clear hfz18_2
      try clear p2
      obtain ⟨kq, x36_11, rfl, HA, HJ11, BK346, BK347, HB⟩ := hcut
      cases kq with
      | zero => exact absurd HA.out (by simp [simplify_Compare.j1])
      | succ kj11 =>
       have H := HA.out
       clear HA
       simp only [simplify_Compare.j1] at H
       by_cases c19 : x36_11 = true
       ·subst c19
        have H1 : (if 0 ≤ x7_1 then (if x7_1 < (l0_2.length : Int) then (if x7_1 < (l1_2.length : Int) then ((simplify_Compare.f kj11 ((rd_T24 l0_2 x7_1).f0) ((rd_T24 l0_2 x7_1).f1) ((rd_T24 l0_2 x7_1).f2) ((rd_T24 l1_2 x7_1).f0) ((rd_T24 l1_2 x7_1).f1) ((rd_T24 l1_2 x7_1).f2)).bind fun t352 => (if t352 = 0 then (simplify_Compare.l0 kj11 (wrap64 (x7_1 + 1)) a0_0 a0_1 l0_2 a1_0 a1_1 l1_2) else (some t352))) else (none)) else (none)) else (none)) = some r := by rw [if_pos rfl] at H; exact H
        clear H
        have H := H1
        clear H1
        by_cases c20 : 0 ≤ x7_1
        ·rw [if_pos c20] at H
         have c20b0 : decide (0 ≤ x7_1) = true := decide_eq_true c20
         clear c20
         by_cases c21 : x7_1 < (l0_2.length : Int)
         ·rw [if_pos c21] at H
          have c21b0 : decide (x7_1 < (l0_2.length : Int)) = true := decide_eq_true c21
          clear c21
          by_cases c22 : x7_1 < (l1_2.length : Int)
          ·rw [if_pos c22] at H
           have c22b0 : decide (x7_1 < (l1_2.length : Int)) = true := decide_eq_true c22
           clear c22
           replace H := Option.bind_eq_some_iff.mp H
           obtain ⟨t352, A230, H⟩ := H
           replace H : (if t352 = 0 then (simplify_Compare.l0 kj11 (wrap64 (x7_1 + 1)) a0_0 a0_1 l0_2 a1_0 a1_1 l1_2) else (some t352)) = some r := H
           have A23 := Aside0.mk A230
           clear A230
           by_cases c24 : t352 = 0
           ·rw [if_pos c24] at H
            have c24b0 : (t352 == 0) = true := beq_iff_eq.mpr c24
            have c24b1 : (t352 != 0) = false := bne_eq_false_iff_eq.mpr c24
            clear c24
            have H' := Aside0.mk H
            clear H
            try go_wp2
            have n0_ := Aside0.mk (blk_drew BK346.out)
            have n1_ := Aside0.mk (blk_drew BK347.out)
            have n2_ := Aside0.mk (below_drew1 HB.out)
            clear BK346
            clear BK347
            clear HB
            have BK346 := n0_
            have BK347 := n1_
            have HB := n2_
            clear n0_ n1_ n2_
            have p350 : 0 ≤ (x7_1 : Int) := of_decide_eq_true (by first | (with_reducible assumption) | assumption)
            have q350 : x7_1 < (l0_2.length : Int) := of_decide_eq_true (by first | (with_reducible assumption) | assumption)
            obtain ⟨ad350, A350_2, c350_2, e350, hx350_0, hx350_1, hx350_2, hl350_2, hi350_2⟩ := at_T24 HR0_2.out x7_1 p350 q350
            have hw350_2 := hx350_2
            have hw350_1 := hx350_1
            have hw350_0 := hx350_0
            cases e350
            replace hx350_0 := (HB.out.cell (World.block_lt_of_cell? w _ hx350_0)).trans hx350_0
            replace hx350_1 := (HB.out.cell (World.block_lt_of_cell? w _ hx350_1)).trans hx350_1
            replace hx350_2 := (HB.out.cell (World.block_lt_of_cell? w _ hx350_2)).trans hx350_2
            have HR350_2 := Aside0.mk hi350_2
            have HC350_2 := Aside0.mk hl350_2
            clear hi350_2 hl350_2
            replace p350 := eq_true p350
            replace q350 := eq_true q350
            have p351 : 0 ≤ (x7_1 : Int) := of_decide_eq_true (by first | (with_reducible assumption) | assumption)
            have q351 : x7_1 < (l1_2.length : Int) := of_decide_eq_true (by first | (with_reducible assumption) | assumption)
            obtain ⟨ad351, A351_2, c351_2, e351, hx351_0, hx351_1, hx351_2, hl351_2, hi351_2⟩ := at_T24 HR1_2.out x7_1 p351 q351
            have hw351_2 := hx351_2
            have hw351_1 := hx351_1
            have hw351_0 := hx351_0
            cases e351
            replace hx351_0 := (HB.out.cell (World.block_lt_of_cell? w _ hx351_0)).trans hx351_0
            replace hx351_1 := (HB.out.cell (World.block_lt_of_cell? w _ hx351_1)).trans hx351_1
            replace hx351_2 := (HB.out.cell (World.block_lt_of_cell? w _ hx351_2)).trans hx351_2
            have HR351_2 := Aside0.mk hi351_2
            have HC351_2 := Aside0.mk hl351_2
            clear hi351_2 hl351_2
            replace p351 := eq_true p351
            replace q351 := eq_true q351
            refine start_ (n := 12) (S := fun w' => w'.cell? ⟨gb346, 0, none⟩ = some (.int .i64 a0_0) ∧ w'.cell? ⟨gb346, 1, none⟩ = some (.int .i64 a0_1) ∧ w'.cell? ⟨gb346, 2, none⟩ = some (.slice (some ad350) l0_2.length c0_2) ∧ w'.cell? ⟨gb347, 0, none⟩ = some (.int .i64 a1_0) ∧ w'.cell? ⟨gb347, 1, none⟩ = some (.int .i64 a1_1) ∧ w'.cell? ⟨gb347, 2, none⟩ = some (.slice (some ad351) l1_2.length c1_2) ∧ w'.cell? (ad350.add ((x7_1).toNat * 3)) = some (.int .i64 ((rd_T24 l0_2 x7_1).f0)) ∧ w'.cell? ⟨(ad350.add ((x7_1).toNat * 3)).block, (ad350.add ((x7_1).toNat * 3)).off + 1, none⟩ = some (.int .i64 ((rd_T24 l0_2 x7_1).f1)) ∧ w'.cell? ⟨(ad350.add ((x7_1).toNat * 3)).block, (ad350.add ((x7_1).toNat * 3)).off + 2, none⟩ = some (.slice A350_2 ((rd_T24 l0_2 x7_1).f2).length c350_2) ∧ w'.cell? (ad351.add ((x7_1).toNat * 3)) = some (.int .i64 ((rd_T24 l1_2 x7_1).f0)) ∧ w'.cell? ⟨(ad351.add ((x7_1).toNat * 3)).block, (ad351.add ((x7_1).toNat * 3)).off + 1, none⟩ = some (.int .i64 ((rd_T24 l1_2 x7_1).f1)) ∧ w'.cell? ⟨(ad351.add ((x7_1).toNat * 3)).block, (ad351.add ((x7_1).toNat * 3)).off + 2, none⟩ = some (.slice A351_2 ((rd_T24 l1_2 x7_1).f2).length c351_2)) (ds := []) #[false, false, false, false, false, false, false, false, false, false, false, false] (by kernel_rfl) rfl rfl ⟨(blk_cell BK346.out 0).trans rfl, (blk_cell BK346.out 1).trans rfl, (blk_cell BK346.out 2).trans rfl, (blk_cell BK347.out 0).trans rfl, (blk_cell BK347.out 1).trans rfl, (blk_cell BK347.out 2).trans rfl, ((HB.out.cell (World.block_lt_of_cell? w _ hw350_0)).trans hw350_0), ((HB.out.cell (World.block_lt_of_cell? w _ hw350_1)).trans hw350_1), ((HB.out.cell (World.block_lt_of_cell? w _ hw350_2)).trans hw350_2), ((HB.out.cell (World.block_lt_of_cell? w _ hw351_0)).trans hw351_0), ((HB.out.cell (World.block_lt_of_cell? w _ hw351_1)).trans hw351_1), ((HB.out.cell (World.block_lt_of_cell? w _ hw351_2)).trans hw351_2)⟩ (fun hHeld => ?_); refine with_tabW simplify_Compare.tab10 simplify_Compare.bits10 (fun HT_ HW_ => ?_)
            generalize wc.drew = w25 at BK346 BK347 HB HR350_2 HR351_2 hx350_0 hx350_1 hx350_2 hx351_0 hx351_1 hx351_2 hHeld ⊢
            refine pure_ (i := 0) (N := some 39) (v := ?_) (a' := ?_) #[true, false, false, false, false, false, false, false, false, false, false, false] rfl rfl (any_of HT_.out (by kernel_rfl)) (fun _ _ _ h => h) (Or.inl ⟨by rfl, ?_⟩) ?_ ?_
            rotate_left
            ·intro w'
             go_simp
             with_reducible rfl
            rotate_left
            ·simp only [Act.put, List.setIfInBounds_toArray, List.set_cons_zero, List.set_cons_succ, i64_w, i32_w]
             rfl
            refine pure_ (i := 2) (N := some 41) (v := ?_) (a' := ?_) #[true, false, true, false, false, false, false, false, false, false, false, false] rfl rfl (any_of HT_.out (by kernel_rfl)) (fun _ _ _ h => h) (Or.inl ⟨by rfl, ?_⟩) ?_ ?_
            rotate_left
            ·intro w'
             go_simp
             with_reducible rfl
            rotate_left
            ·simp only [Act.put, List.setIfInBounds_toArray, List.set_cons_zero, List.set_cons_succ, i64_w, i32_w]
             rfl
            refine pure_ (i := 5) (N := some 44) (v := ?_) (a' := ?_) #[true, false, true, false, false, true, false, false, false, false, false, false] rfl rfl (any_of HT_.out (by kernel_rfl)) (fun _ _ _ h => h) (Or.inl ⟨by rfl, ?_⟩) ?_ ?_
            rotate_left
            ·intro w'
             go_simp
             with_reducible rfl
            rotate_left
            ·simp only [Act.put, List.setIfInBounds_toArray, List.set_cons_zero, List.set_cons_succ, i64_w, i32_w]
             rfl
            refine pure_ (i := 7) (N := some 46) (v := ?_) (a' := ?_) #[true, false, true, false, false, true, false, true, false, false, false, false] rfl rfl (any_of HT_.out (by kernel_rfl)) (fun _ _ _ h => h) (Or.inl ⟨by rfl, ?_⟩) ?_ ?_
            rotate_left
            ·intro w'
             go_simp
             with_reducible rfl
            rotate_left
            ·simp only [Act.put, List.setIfInBounds_toArray, List.set_cons_zero, List.set_cons_succ, i64_w, i32_w]
             rfl
            refine take_ (i := 1) (N := some 40) (v := ?_) (a' := ?_) #[true, true, true, false, false, true, false, true, false, false, false, false] rfl rfl (take_ofW HT_.out HW_.out (by kernel_rfl)) (fun _ _ _ h => h) (Or.inl ⟨by rfl, ?_⟩) hHeld ?_ ?_
            rotate_left
            ·rintro w' ⟨s0, s1, s2, s3, s4, s5, s6, s7, s8, s9, s10, s11⟩
             go_simp
             with_reducible rfl
            rotate_left
            ·simp only [Act.put, List.setIfInBounds_toArray, List.set_cons_zero, List.set_cons_succ, i64_w, i32_w]
             rfl
            refine pure_ (i := 3) (N := some 42) (v := ?_) (a' := ?_) #[true, true, true, true, false, true, false, true, false, false, false, false] rfl rfl (any_of HT_.out (by kernel_rfl)) (fun _ _ _ h => h) (Or.inl ⟨by rfl, ?_⟩) ?_ ?_
            rotate_left
            ·intro w'
             go_simp
             with_reducible rfl
            rotate_left
            ·simp only [Act.put, List.setIfInBounds_toArray, List.set_cons_zero, List.set_cons_succ, i64_w, i32_w]
             rfl
            refine take_ (i := 4) (N := some 43) (v := ?_) (a' := ?_) #[true, true, true, true, true, true, false, true, false, false, false, false] rfl rfl (take_ofW HT_.out HW_.out (by kernel_rfl)) (fun _ _ _ h => h) (Or.inl ⟨by rfl, ?_⟩) hHeld ?_ ?_
            rotate_left
            ·rintro w' ⟨s0, s1, s2, s3, s4, s5, s6, s7, s8, s9, s10, s11⟩
             go_simp
             with_reducible rfl
            rotate_left
            ·simp only [Act.put, List.setIfInBounds_toArray, List.set_cons_zero, List.set_cons_succ, i64_w, i32_w]
             rfl
            refine take_ (i := 6) (N := some 45) (v := ?_) (a' := ?_) #[true, true, true, true, true, true, true, true, false, false, false, false] rfl rfl (take_ofW HT_.out HW_.out (by kernel_rfl)) (fun _ _ _ h => h) (Or.inl ⟨by rfl, ?_⟩) hHeld ?_ ?_
            rotate_left
            ·rintro w' ⟨s0, s1, s2, s3, s4, s5, s6, s7, s8, s9, s10, s11⟩
             go_simp
             with_reducible rfl
            rotate_left
            ·simp only [Act.put, List.setIfInBounds_toArray, List.set_cons_zero, List.set_cons_succ, i64_w, i32_w]
             rfl
            refine pure_ (i := 8) (N := some 47) (v := ?_) (a' := ?_) #[true, true, true, true, true, true, true, true, true, false, false, false] rfl rfl (any_of HT_.out (by kernel_rfl)) (fun _ _ _ h => h) (Or.inl ⟨by rfl, ?_⟩) ?_ ?_
            rotate_left
            ·intro w'
             go_simp
             with_reducible rfl
            rotate_left
            ·simp only [Act.put, List.setIfInBounds_toArray, List.set_cons_zero, List.set_cons_succ, i64_w, i32_w]
             rfl
            refine take_ (i := 9) (N := some 48) (v := ?_) (a' := ?_) #[true, true, true, true, true, true, true, true, true, true, false, false] rfl rfl (take_ofW HT_.out HW_.out (by kernel_rfl)) (fun _ _ _ h => h) (Or.inl ⟨by rfl, ?_⟩) hHeld ?_ ?_
            rotate_left
            ·rintro w' ⟨s0, s1, s2, s3, s4, s5, s6, s7, s8, s9, s10, s11⟩
             go_simp
             with_reducible rfl
            rotate_left
            ·simp only [Act.put, List.setIfInBounds_toArray, List.set_cons_zero, List.set_cons_succ, i64_w, i32_w]
             rfl
            refine one_ (i := 10) (N := some 49) #[true, true, true, true, true, true, true, true, true, true, true, false] rfl rfl (one_of HT_.out (by kernel_rfl)) (by decide) (fun K hK => ?_)
            refine goes_ Try.func52 (by kernel_rfl) rfl #[.agg #[.int .i64 ((rd_T24 l0_2 x7_1).f0), .int .i64 ((rd_T24 l0_2 x7_1).f1), .slice A350_2 ((rd_T24 l0_2 x7_1).f2).length c350_2], .agg #[.int .i64 ((rd_T24 l1_2 x7_1).f0), .int .i64 ((rd_T24 l1_2 x7_1).f1), .slice A351_2 ((rd_T24 l1_2 x7_1).f2).length c351_2]] (by rfl) rfl rfl (by (try simp only [List.map_toArray, List.map_cons, List.map_nil]); first | done | rfl | (simp only [List.length_drop, List.length_take]; rfl)) ?_
            with_reducible refine (ih kj11 (by have := HK1.out; have := HJ11.out; omega) ((rd_T24 l0_2 x7_1).f0) ((rd_T24 l0_2 x7_1).f1) _ _ ((rd_T24 l0_2 x7_1).f2) ((rd_T24 l1_2 x7_1).f0) ((rd_T24 l1_2 x7_1).f1) _ _ ((rd_T24 l1_2 x7_1).f2) t352 _ ?side1 ?side2 ?side3 ?side4 A23.out).mono ?_
            (case side1 => repeat (first | exact (Kd.C_below HR350_2.out HB.out) | (with_reducible refine Kd.C_alloc ?_ _) | (with_reducible refine Kd.C_drewN ?_ _) | (with_reducible refine Kd.C_drew ?_)))
            (case side2 => exact HC350_2.out)
            (case side3 => repeat (first | exact (Kd.C_below HR351_2.out HB.out) | (with_reducible refine Kd.C_alloc ?_ _) | (with_reducible refine Kd.C_drewN ?_ _) | (with_reducible refine Kd.C_drew ?_)))
            (case side4 => exact HC351_2.out)
            rintro e w26 ⟨rfl, hb⟩
            refine ⟨_, rfl, ?_⟩
            have n0_ := Aside0.mk (blk_below (g := gb346) (o := .cells #[.int .i64 a0_0, .int .i64 a0_1, .slice (some ad350) l0_2.length c0_2] 24 (0, 0)) (bK) hb)
            have n1_ := Aside0.mk (blk_below (g := gb347) (o := .cells #[.int .i64 a1_0, .int .i64 a1_1, .slice (some ad351) l1_2.length c1_2] 24 (0, 0)) (bK) hb)
            have n2_ := Aside0.mk (below_step (bB) hb)
            clear BK346
            clear BK347
            clear HB
            have BK346 := n0_
            have BK347 := n1_
            have HB := n2_
            clear n0_ n1_ n2_
            (try clear hb)
            (try clear hb2)
            (try clear hk)
            (try clear hi)
            refine hK.out _ _ ⟨(blk_cell BK346.out 0).trans rfl, (blk_cell BK346.out 1).trans rfl, (blk_cell BK346.out 2).trans rfl, (blk_cell BK347.out 0).trans rfl, (blk_cell BK347.out 1).trans rfl, (blk_cell BK347.out 2).trans rfl, ((HB.out.cell (World.block_lt_of_cell? w _ hw350_0)).trans hw350_0), ((HB.out.cell (World.block_lt_of_cell? w _ hw350_1)).trans hw350_1), ((HB.out.cell (World.block_lt_of_cell? w _ hw350_2)).trans hw350_2), ((HB.out.cell (World.block_lt_of_cell? w _ hw351_0)).trans hw351_0), ((HB.out.cell (World.block_lt_of_cell? w _ hw351_1)).trans hw351_1), ((HB.out.cell (World.block_lt_of_cell? w _ hw351_2)).trans hw351_2)⟩ (fun hHeld => ?_)
            clear hK K
            refine norm_ (a' := ?_) ?_ ?_
            rotate_left
            ·show Act.put _ (some 49) _ = _
             simp only [Act.put, List.setIfInBounds_toArray, List.set_cons_zero, List.set_cons_succ, i64_w, i32_w]
             rfl
            refine pure_ (i := 11) (N := some 8) (v := ?_) (a' := ?_) #[true, true, true, true, true, true, true, true, true, true, true, true] rfl rfl (any_of HT_.out (by kernel_rfl)) (fun _ _ _ h => h) (Or.inl ⟨by rfl, ?_⟩) ?_ ?_
            rotate_left
            ·intro w'
             go_simp
             with_reducible rfl
            rotate_left
            ·simp only [Act.put, List.setIfInBounds_toArray, List.set_cons_zero, List.set_cons_succ, i64_w, i32_w]
             rfl
            refine done_ (done_of HT_.out (by kernel_rfl)) ?_
            try go_wp2
            (first | go_roundg kj11 | ((simp only [add_plain] at *); go_roundg kj11))
            case measure => have := HK1.out; have := HJ11.out; omega
            case rel => exact ⟨(wrap64 (x7_1 + 1)), (by first | rfl | (simp; done) | (simp [*]; done)), H', ⟨by have := HK1.out; have := HJ11.out; omega⟩, ⟨bK⟩, ⟨bK⟩, ⟨bB⟩⟩
           ·rw [if_neg c24] at H
            have c24b0 : (t352 == 0) = false := beq_eq_false_iff_ne.mpr c24
            have c24b1 : (t352 != 0) = true := bne_iff_ne.mpr c24
            obtain rfl := Option.some.inj H
            try go_wp2
            have n0_ := Aside0.mk (blk_drew BK346.out)
            have n1_ := Aside0.mk (blk_drew BK347.out)
            have n2_ := Aside0.mk (below_drew1 HB.out)
            clear BK346
            clear BK347
            clear HB
            have BK346 := n0_
            have BK347 := n1_
            have HB := n2_
            clear n0_ n1_ n2_
            have p350 : 0 ≤ (x7_1 : Int) := of_decide_eq_true (by first | (with_reducible assumption) | assumption)
            have q350 : x7_1 < (l0_2.length : Int) := of_decide_eq_true (by first | (with_reducible assumption) | assumption)
            obtain ⟨ad350, A350_2, c350_2, e350, hx350_0, hx350_1, hx350_2, hl350_2, hi350_2⟩ := at_T24 HR0_2.out x7_1 p350 q350
            have hw350_2 := hx350_2
            have hw350_1 := hx350_1
            have hw350_0 := hx350_0
            cases e350
            replace hx350_0 := (HB.out.cell (World.block_lt_of_cell? w _ hx350_0)).trans hx350_0
            replace hx350_1 := (HB.out.cell (World.block_lt_of_cell? w _ hx350_1)).trans hx350_1
            replace hx350_2 := (HB.out.cell (World.block_lt_of_cell? w _ hx350_2)).trans hx350_2
            have HR350_2 := Aside0.mk hi350_2
            have HC350_2 := Aside0.mk hl350_2
            clear hi350_2 hl350_2
            replace p350 := eq_true p350
            replace q350 := eq_true q350
            have p351 : 0 ≤ (x7_1 : Int) := of_decide_eq_true (by first | (with_reducible assumption) | assumption)
            have q351 : x7_1 < (l1_2.length : Int) := of_decide_eq_true (by first | (with_reducible assumption) | assumption)
            obtain ⟨ad351, A351_2, c351_2, e351, hx351_0, hx351_1, hx351_2, hl351_2, hi351_2⟩ := at_T24 HR1_2.out x7_1 p351 q351
            have hw351_2 := hx351_2
            have hw351_1 := hx351_1
            have hw351_0 := hx351_0
            cases e351
            replace hx351_0 := (HB.out.cell (World.block_lt_of_cell? w _ hx351_0)).trans hx351_0
            replace hx351_1 := (HB.out.cell (World.block_lt_of_cell? w _ hx351_1)).trans hx351_1
            replace hx351_2 := (HB.out.cell (World.block_lt_of_cell? w _ hx351_2)).trans hx351_2
            have HR351_2 := Aside0.mk hi351_2
            have HC351_2 := Aside0.mk hl351_2
            clear hi351_2 hl351_2
            replace p351 := eq_true p351
            replace q351 := eq_true q351
            refine start_ (n := 12) (S := fun w' => w'.cell? ⟨gb346, 0, none⟩ = some (.int .i64 a0_0) ∧ w'.cell? ⟨gb346, 1, none⟩ = some (.int .i64 a0_1) ∧ w'.cell? ⟨gb346, 2, none⟩ = some (.slice (some ad350) l0_2.length c0_2) ∧ w'.cell? ⟨gb347, 0, none⟩ = some (.int .i64 a1_0) ∧ w'.cell? ⟨gb347, 1, none⟩ = some (.int .i64 a1_1) ∧ w'.cell? ⟨gb347, 2, none⟩ = some (.slice (some ad351) l1_2.length c1_2) ∧ w'.cell? (ad350.add ((x7_1).toNat * 3)) = some (.int .i64 ((rd_T24 l0_2 x7_1).f0)) ∧ w'.cell? ⟨(ad350.add ((x7_1).toNat * 3)).block, (ad350.add ((x7_1).toNat * 3)).off + 1, none⟩ = some (.int .i64 ((rd_T24 l0_2 x7_1).f1)) ∧ w'.cell? ⟨(ad350.add ((x7_1).toNat * 3)).block, (ad350.add ((x7_1).toNat * 3)).off + 2, none⟩ = some (.slice A350_2 ((rd_T24 l0_2 x7_1).f2).length c350_2) ∧ w'.cell? (ad351.add ((x7_1).toNat * 3)) = some (.int .i64 ((rd_T24 l1_2 x7_1).f0)) ∧ w'.cell? ⟨(ad351.add ((x7_1).toNat * 3)).block, (ad351.add ((x7_1).toNat * 3)).off + 1, none⟩ = some (.int .i64 ((rd_T24 l1_2 x7_1).f1)) ∧ w'.cell? ⟨(ad351.add ((x7_1).toNat * 3)).block, (ad351.add ((x7_1).toNat * 3)).off + 2, none⟩ = some (.slice A351_2 ((rd_T24 l1_2 x7_1).f2).length c351_2)) (ds := []) #[false, false, false, false, false, false, false, false, false, false, false, false] (by kernel_rfl) rfl rfl ⟨(blk_cell BK346.out 0).trans rfl, (blk_cell BK346.out 1).trans rfl, (blk_cell BK346.out 2).trans rfl, (blk_cell BK347.out 0).trans rfl, (blk_cell BK347.out 1).trans rfl, (blk_cell BK347.out 2).trans rfl, ((HB.out.cell (World.block_lt_of_cell? w _ hw350_0)).trans hw350_0), ((HB.out.cell (World.block_lt_of_cell? w _ hw350_1)).trans hw350_1), ((HB.out.cell (World.block_lt_of_cell? w _ hw350_2)).trans hw350_2), ((HB.out.cell (World.block_lt_of_cell? w _ hw351_0)).trans hw351_0), ((HB.out.cell (World.block_lt_of_cell? w _ hw351_1)).trans hw351_1), ((HB.out.cell (World.block_lt_of_cell? w _ hw351_2)).trans hw351_2)⟩ (fun hHeld => ?_); refine with_tabW simplify_Compare.tab10 simplify_Compare.bits10 (fun HT_ HW_ => ?_)
            generalize wc.drew = w27 at BK346 BK347 HB HR350_2 HR351_2 hx350_0 hx350_1 hx350_2 hx351_0 hx351_1 hx351_2 hHeld ⊢
            refine pure_ (i := 0) (N := some 39) (v := ?_) (a' := ?_) #[true, false, false, false, false, false, false, false, false, false, false, false] rfl rfl (any_of HT_.out (by kernel_rfl)) (fun _ _ _ h => h) (Or.inl ⟨by rfl, ?_⟩) ?_ ?_
            rotate_left
            ·intro w'
             go_simp
             with_reducible rfl
            rotate_left
            ·simp only [Act.put, List.setIfInBounds_toArray, List.set_cons_zero, List.set_cons_succ, i64_w, i32_w]
             rfl
            refine pure_ (i := 2) (N := some 41) (v := ?_) (a' := ?_) #[true, false, true, false, false, false, false, false, false, false, false, false] rfl rfl (any_of HT_.out (by kernel_rfl)) (fun _ _ _ h => h) (Or.inl ⟨by rfl, ?_⟩) ?_ ?_
            rotate_left
            ·intro w'
             go_simp
             with_reducible rfl
            rotate_left
            ·simp only [Act.put, List.setIfInBounds_toArray, List.set_cons_zero, List.set_cons_succ, i64_w, i32_w]
             rfl
            refine pure_ (i := 5) (N := some 44) (v := ?_) (a' := ?_) #[true, false, true, false, false, true, false, false, false, false, false, false] rfl rfl (any_of HT_.out (by kernel_rfl)) (fun _ _ _ h => h) (Or.inl ⟨by rfl, ?_⟩) ?_ ?_
            rotate_left
            ·intro w'
             go_simp
             with_reducible rfl
            rotate_left
            ·simp only [Act.put, List.setIfInBounds_toArray, List.set_cons_zero, List.set_cons_succ, i64_w, i32_w]
             rfl
            refine pure_ (i := 7) (N := some 46) (v := ?_) (a' := ?_) #[true, false, true, false, false, true, false, true, false, false, false, false] rfl rfl (any_of HT_.out (by kernel_rfl)) (fun _ _ _ h => h) (Or.inl ⟨by rfl, ?_⟩) ?_ ?_
            rotate_left
            ·intro w'
             go_simp
             with_reducible rfl
            rotate_left
            ·simp only [Act.put, List.setIfInBounds_toArray, List.set_cons_zero, List.set_cons_succ, i64_w, i32_w]
             rfl
            refine take_ (i := 1) (N := some 40) (v := ?_) (a' := ?_) #[true, true, true, false, false, true, false, true, false, false, false, false] rfl rfl (take_ofW HT_.out HW_.out (by kernel_rfl)) (fun _ _ _ h => h) (Or.inl ⟨by rfl, ?_⟩) hHeld ?_ ?_
            rotate_left
            ·rintro w' ⟨s0, s1, s2, s3, s4, s5, s6, s7, s8, s9, s10, s11⟩
             go_simp
             with_reducible rfl
            rotate_left
            ·simp only [Act.put, List.setIfInBounds_toArray, List.set_cons_zero, List.set_cons_succ, i64_w, i32_w]
             rfl
            refine pure_ (i := 3) (N := some 42) (v := ?_) (a' := ?_) #[true, true, true, true, false, true, false, true, false, false, false, false] rfl rfl (any_of HT_.out (by kernel_rfl)) (fun _ _ _ h => h) (Or.inl ⟨by rfl, ?_⟩) ?_ ?_
            rotate_left
            ·intro w'
             go_simp
             with_reducible rfl
            rotate_left
            ·simp only [Act.put, List.setIfInBounds_toArray, List.set_cons_zero, List.set_cons_succ, i64_w, i32_w]
             rfl
            refine take_ (i := 4) (N := some 43) (v := ?_) (a' := ?_) #[true, true, true, true, true, true, false, true, false, false, false, false] rfl rfl (take_ofW HT_.out HW_.out (by kernel_rfl)) (fun _ _ _ h => h) (Or.inl ⟨by rfl, ?_⟩) hHeld ?_ ?_
            rotate_left
            ·rintro w' ⟨s0, s1, s2, s3, s4, s5, s6, s7, s8, s9, s10, s11⟩
             go_simp
             with_reducible rfl
            rotate_left
            ·simp only [Act.put, List.setIfInBounds_toArray, List.set_cons_zero, List.set_cons_succ, i64_w, i32_w]
             rfl
            refine take_ (i := 6) (N := some 45) (v := ?_) (a' := ?_) #[true, true, true, true, true, true, true, true, false, false, false, false] rfl rfl (take_ofW HT_.out HW_.out (by kernel_rfl)) (fun _ _ _ h => h) (Or.inl ⟨by rfl, ?_⟩) hHeld ?_ ?_
            rotate_left
            ·rintro w' ⟨s0, s1, s2, s3, s4, s5, s6, s7, s8, s9, s10, s11⟩
             go_simp
             with_reducible rfl
            rotate_left
            ·simp only [Act.put, List.setIfInBounds_toArray, List.set_cons_zero, List.set_cons_succ, i64_w, i32_w]
             rfl
            refine pure_ (i := 8) (N := some 47) (v := ?_) (a' := ?_) #[true, true, true, true, true, true, true, true, true, false, false, false] rfl rfl (any_of HT_.out (by kernel_rfl)) (fun _ _ _ h => h) (Or.inl ⟨by rfl, ?_⟩) ?_ ?_
            rotate_left
            ·intro w'
             go_simp
             with_reducible rfl
            rotate_left
            ·simp only [Act.put, List.setIfInBounds_toArray, List.set_cons_zero, List.set_cons_succ, i64_w, i32_w]
             rfl
            refine take_ (i := 9) (N := some 48) (v := ?_) (a' := ?_) #[true, true, true, true, true, true, true, true, true, true, false, false] rfl rfl (take_ofW HT_.out HW_.out (by kernel_rfl)) (fun _ _ _ h => h) (Or.inl ⟨by rfl, ?_⟩) hHeld ?_ ?_
            rotate_left
            ·rintro w' ⟨s0, s1, s2, s3, s4, s5, s6, s7, s8, s9, s10, s11⟩
             go_simp
             with_reducible rfl
            rotate_left
            ·simp only [Act.put, List.setIfInBounds_toArray, List.set_cons_zero, List.set_cons_succ, i64_w, i32_w]
             rfl
            refine one_ (i := 10) (N := some 49) #[true, true, true, true, true, true, true, true, true, true, true, false] rfl rfl (one_of HT_.out (by kernel_rfl)) (by decide) (fun K hK => ?_)
            refine goes_ Try.func52 (by kernel_rfl) rfl #[.agg #[.int .i64 ((rd_T24 l0_2 x7_1).f0), .int .i64 ((rd_T24 l0_2 x7_1).f1), .slice A350_2 ((rd_T24 l0_2 x7_1).f2).length c350_2], .agg #[.int .i64 ((rd_T24 l1_2 x7_1).f0), .int .i64 ((rd_T24 l1_2 x7_1).f1), .slice A351_2 ((rd_T24 l1_2 x7_1).f2).length c351_2]] (by rfl) rfl rfl (by (try simp only [List.map_toArray, List.map_cons, List.map_nil]); first | done | rfl | (simp only [List.length_drop, List.length_take]; rfl)) ?_
            with_reducible refine (ih kj11 (by have := HK1.out; have := HJ11.out; omega) ((rd_T24 l0_2 x7_1).f0) ((rd_T24 l0_2 x7_1).f1) _ _ ((rd_T24 l0_2 x7_1).f2) ((rd_T24 l1_2 x7_1).f0) ((rd_T24 l1_2 x7_1).f1) _ _ ((rd_T24 l1_2 x7_1).f2) t352 _ ?side1 ?side2 ?side3 ?side4 A23.out).mono ?_
            (case side1 => repeat (first | exact (Kd.C_below HR350_2.out HB.out) | (with_reducible refine Kd.C_alloc ?_ _) | (with_reducible refine Kd.C_drewN ?_ _) | (with_reducible refine Kd.C_drew ?_)))
            (case side2 => exact HC350_2.out)
            (case side3 => repeat (first | exact (Kd.C_below HR351_2.out HB.out) | (with_reducible refine Kd.C_alloc ?_ _) | (with_reducible refine Kd.C_drewN ?_ _) | (with_reducible refine Kd.C_drew ?_)))
            (case side4 => exact HC351_2.out)
            rintro e w28 ⟨rfl, hb⟩
            refine ⟨_, rfl, ?_⟩
            have n0_ := Aside0.mk (blk_below (g := gb346) (o := .cells #[.int .i64 a0_0, .int .i64 a0_1, .slice (some ad350) l0_2.length c0_2] 24 (0, 0)) (bK) hb)
            have n1_ := Aside0.mk (blk_below (g := gb347) (o := .cells #[.int .i64 a1_0, .int .i64 a1_1, .slice (some ad351) l1_2.length c1_2] 24 (0, 0)) (bK) hb)
            have n2_ := Aside0.mk (below_step (bB) hb)
            clear BK346
            clear BK347
            clear HB
            have BK346 := n0_
            have BK347 := n1_
            have HB := n2_
            clear n0_ n1_ n2_
            (try clear hb)
            (try clear hb2)
            (try clear hk)
            (try clear hi)
            refine hK.out _ _ ⟨(blk_cell BK346.out 0).trans rfl, (blk_cell BK346.out 1).trans rfl, (blk_cell BK346.out 2).trans rfl, (blk_cell BK347.out 0).trans rfl, (blk_cell BK347.out 1).trans rfl, (blk_cell BK347.out 2).trans rfl, ((HB.out.cell (World.block_lt_of_cell? w _ hw350_0)).trans hw350_0), ((HB.out.cell (World.block_lt_of_cell? w _ hw350_1)).trans hw350_1), ((HB.out.cell (World.block_lt_of_cell? w _ hw350_2)).trans hw350_2), ((HB.out.cell (World.block_lt_of_cell? w _ hw351_0)).trans hw351_0), ((HB.out.cell (World.block_lt_of_cell? w _ hw351_1)).trans hw351_1), ((HB.out.cell (World.block_lt_of_cell? w _ hw351_2)).trans hw351_2)⟩ (fun hHeld => ?_)
            clear hK K
            refine norm_ (a' := ?_) ?_ ?_
            rotate_left
            ·show Act.put _ (some 49) _ = _
             simp only [Act.put, List.setIfInBounds_toArray, List.set_cons_zero, List.set_cons_succ, i64_w, i32_w]
             rfl
            refine pure_ (i := 11) (N := some 8) (v := ?_) (a' := ?_) #[true, true, true, true, true, true, true, true, true, true, true, true] rfl rfl (any_of HT_.out (by kernel_rfl)) (fun _ _ _ h => h) (Or.inl ⟨by rfl, ?_⟩) ?_ ?_
            rotate_left
            ·intro w'
             go_simp
             with_reducible rfl
            rotate_left
            ·simp only [Act.put, List.setIfInBounds_toArray, List.set_cons_zero, List.set_cons_succ, i64_w, i32_w]
             rfl
            refine done_ (done_of HT_.out (by kernel_rfl)) ?_
            try go_wp2
            go_ret
            exact ⟨by first | rfl | (simp [errW_none, errW_some] <;> rfl) | (simp [*, errW_none, errW_some] <;> rfl), bB⟩
          ·rw [if_neg c22] at H
           exact absurd H (by simp)
         ·rw [if_neg c21] at H
          exact absurd H (by simp)
        ·rw [if_neg c20] at H
         exact absurd H (by simp)
       ·replace c19 := Bool.eq_false_iff.mpr c19
        subst c19
        have H1 : ((simplify_order.f (l0_2.length : Int) (l1_2.length : Int)).bind fun t353 => (some t353)) = some r := by rw [if_neg (show ¬ (false = true) by decide)] at H; exact H
        clear H
        have H := H1
        clear H1
        replace H := Option.bind_eq_some_iff.mp H
        obtain ⟨t353, A290, H⟩ := H
        replace H : (some t353) = some r := H
        have A29 := Aside0.mk A290
        clear A290
        obtain rfl := Option.some.inj H
        have hnb30 := NB346_347.out
        have hnc30 := NB347_346.out
        have hcz31_0 : wc.cell? ⟨gb346, 0, none⟩ = some (.int .i64 a0_0) := (blk_cell BK346.out 0).trans rfl
        have hcz31_1 : wc.cell? ⟨gb346, 1, none⟩ = some (.int .i64 a0_1) := (blk_cell BK346.out 1).trans rfl
        have hcz31_2 : wc.cell? ⟨gb346, 2, none⟩ = some (.slice A0_2 l0_2.length c0_2) := (blk_cell BK346.out 2).trans rfl
        have hfz31_0 := blk_frozen BK346.out 0
        have hfz31_1 := blk_frozen BK346.out 1
        have hfz31_2 := blk_frozen BK346.out 2
        have hcz32_0 : wc.cell? ⟨gb347, 0, none⟩ = some (.int .i64 a1_0) := (blk_cell BK347.out 0).trans rfl
        have hcz32_1 : wc.cell? ⟨gb347, 1, none⟩ = some (.int .i64 a1_1) := (blk_cell BK347.out 1).trans rfl
        have hcz32_2 : wc.cell? ⟨gb347, 2, none⟩ = some (.slice A1_2 l1_2.length c1_2) := (blk_cell BK347.out 2).trans rfl
        have hfz32_0 := blk_frozen BK347.out 0
        have hfz32_1 := blk_frozen BK347.out 1
        have hfz32_2 := blk_frozen BK347.out 2
        go_wp2_with (first | ((with_reducible refine gate_callee (f := 73) rfl ?_); refine goesL_ (some 59) rfl rfl Try.func73 (by kernel_rfl) rfl #[.int .i64 (l0_2.length : Int), .int .i64 (l1_2.length : Int)] rfl (by (try simp only [List.map_toArray, List.map_cons, List.map_nil]); first | done | rfl | (simp only [List.length_drop, List.length_take]; rfl) | (simp only [Int.ofNat_lt, Int.ofNat_le]; rfl)) ?_; (with_reducible refine (simplify_order.calls (l0_2.length : Int) (l1_2.length : Int) t353 _ A29.out).mono ?_); rintro e w' ⟨rfl, ⟨nd, rfl⟩⟩; refine ⟨_, rfl, ?_⟩))
        go_ret
        exact ⟨by first | rfl | (simp [errW_none, errW_some] <;> rfl) | (simp [*, errW_none, errW_some] <;> rfl), bB⟩
  ·rw [if_neg c6] at H
   have c6b0 : (t349 == 0) = false := beq_eq_false_iff_ne.mpr c6
   have c6b1 : (t349 != 0) = true := bne_iff_ne.mpr c6
   obtain rfl := Option.some.inj H
   go_enter Try.func52, Try.ntmps52
   go_wp2_with (first | ((with_reducible refine gate_dst (N := 2) rfl ?_); (try (refine gate_guard (by rfl) ?_; dsimp only)); refine box_event ?hg (N := 2) ?hd (cs := #[.int .i64 a0_0, .int .i64 a0_1, .slice A0_2 l0_2.length c0_2]) (t := 24) ?hr ?_; (case hd => rfl); (case hg => rfl); (case hr => first | (go_simp; done) | (go_simp; rfl)); intro gb346 hg w33 hbox hb; have n0_ := Aside0.mk (below_step (bB) hb); have n1_ := Aside0.mk (hbox); have n2_ := Aside0.mk ((by rw [hg]; exact (below_size (bB)) : w.heap.size ≤ gb346)); have n3_ := Aside0.mk ((by rw [hg]; exact (below_size (bB)) : w.heap.size ≤ gb346)); clear HB; have HB := n0_; have BK346 := n1_; have GW346 := n2_; have GE346 := n3_; clear n0_ n1_ n2_ n3_; clear hb hbox hg) | ((with_reducible refine gate_dst (N := 3) rfl ?_); (try (refine gate_guard (by rfl) ?_; dsimp only)); refine box_event ?hg (N := 3) ?hd (cs := #[.int .i64 a1_0, .int .i64 a1_1, .slice A1_2 l1_2.length c1_2]) (t := 24) ?hr ?_; (case hd => rfl); (case hg => rfl); (case hr => first | (go_simp; done) | (go_simp; rfl)); intro gb347 hg w34 hbox hb; have n0_ := Aside0.mk (blk_below (g := gb346) (o := .cells #[.int .i64 a0_0, .int .i64 a0_1, .slice A0_2 l0_2.length c0_2] 24 (0, 0)) (bK) hb); have n1_ := Aside0.mk (below_step (bB) hb); have n2_ := Aside0.mk (hbox); have n3_ := Aside0.mk ((by rw [hg]; exact (below_size (bB)) : w.heap.size ≤ gb347)); have n4_ := Aside0.mk ((by rw [hg]; exact (below_size (bB)) : w.heap.size ≤ gb347)); have n5_ := Aside0.mk ((by rw [hg]; exact Nat.ne_of_lt (blk_lt (g := gb346) (o := .cells #[.int .i64 a0_0, .int .i64 a0_1, .slice A0_2 l0_2.length c0_2] 24 (0, 0)) (bK)) : gb346 ≠ gb347)); have n6_ := Aside0.mk ((by rw [hg]; exact Nat.ne_of_gt (blk_lt (g := gb346) (o := .cells #[.int .i64 a0_0, .int .i64 a0_1, .slice A0_2 l0_2.length c0_2] 24 (0, 0)) (bK)) : gb347 ≠ gb346)); clear BK346; clear HB; have BK346 := n0_; have HB := n1_; have BK347 := n2_; have GW347 := n3_; have GE347 := n4_; have NB346_347 := n5_; have NB347_346 := n6_; clear n0_ n1_ n2_ n3_ n4_ n5_ n6_; clear hb hbox hg; have hnb35 := NB346_347.out; have hnc35 := NB347_346.out; have hcz36_0 : w34.cell? ⟨gb346, 0, none⟩ = some (.int .i64 a0_0) := (blk_cell BK346.out 0).trans rfl; have hcz36_1 : w34.cell? ⟨gb346, 1, none⟩ = some (.int .i64 a0_1) := (blk_cell BK346.out 1).trans rfl; have hcz36_2 : w34.cell? ⟨gb346, 2, none⟩ = some (.slice A0_2 l0_2.length c0_2) := (blk_cell BK346.out 2).trans rfl; have hfz36_0 := blk_frozen BK346.out 0; have hfz36_1 := blk_frozen BK346.out 1; have hfz36_2 := blk_frozen BK346.out 2; have hcz37_0 : w34.cell? ⟨gb347, 0, none⟩ = some (.int .i64 a1_0) := (blk_cell BK347.out 0).trans rfl; have hcz37_1 : w34.cell? ⟨gb347, 1, none⟩ = some (.int .i64 a1_1) := (blk_cell BK347.out 1).trans rfl; have hcz37_2 : w34.cell? ⟨gb347, 2, none⟩ = some (.slice A1_2 l1_2.length c1_2) := (blk_cell BK347.out 2).trans rfl; have hfz37_0 := blk_frozen BK347.out 0; have hfz37_1 := blk_frozen BK347.out 1; have hfz37_2 := blk_frozen BK347.out 2) | ((with_reducible refine gate_callee (f := 73) rfl ?_); refine goesL_ (some 13) rfl rfl Try.func73 (by kernel_rfl) rfl #[.int .i64 a0_0, .int .i64 a1_0] rfl (by (try simp only [List.map_toArray, List.map_cons, List.map_nil]); first | done | rfl | (simp only [List.length_drop, List.length_take]; rfl) | (simp only [Int.ofNat_lt, Int.ofNat_le]; rfl)) ?_; (with_reducible refine (simplify_order.calls a0_0 a1_0 t348 _ A3.out).mono ?_); rintro e w' ⟨rfl, ⟨nd, rfl⟩⟩; refine ⟨_, rfl, ?_⟩) | ((with_reducible refine gate_callee (f := 73) rfl ?_); refine goesL_ (some 21) rfl rfl Try.func73 (by kernel_rfl) rfl #[.int .i64 a0_1, .int .i64 a1_1] rfl (by (try simp only [List.map_toArray, List.map_cons, List.map_nil]); first | done | rfl | (simp only [List.length_drop, List.length_take]; rfl) | (simp only [Int.ofNat_lt, Int.ofNat_le]; rfl)) ?_; (with_reducible refine (simplify_order.calls a0_1 a1_1 t349 _ A5.out).mono ?_); rintro e w' ⟨rfl, ⟨nd, rfl⟩⟩; refine ⟨_, rfl, ?_⟩))
   go_ret
   exact ⟨by first | rfl | (simp [errW_none, errW_some] <;> rfl) | (simp [*, errW_none, errW_some] <;> rfl), bB⟩
 ·rw [if_neg c4] at H
  have c4b0 : (t348 == 0) = false := beq_eq_false_iff_ne.mpr c4
  have c4b1 : (t348 != 0) = true := bne_iff_ne.mpr c4
  obtain rfl := Option.some.inj H
  go_enter Try.func52, Try.ntmps52
  go_wp2_with (first | ((with_reducible refine gate_dst (N := 2) rfl ?_); (try (refine gate_guard (by rfl) ?_; dsimp only)); refine box_event ?hg (N := 2) ?hd (cs := #[.int .i64 a0_0, .int .i64 a0_1, .slice A0_2 l0_2.length c0_2]) (t := 24) ?hr ?_; (case hd => rfl); (case hg => rfl); (case hr => first | (go_simp; done) | (go_simp; rfl)); intro gb346 hg w38 hbox hb; have n0_ := Aside0.mk (below_step (bB) hb); have n1_ := Aside0.mk (hbox); have n2_ := Aside0.mk ((by rw [hg]; exact (below_size (bB)) : w.heap.size ≤ gb346)); have n3_ := Aside0.mk ((by rw [hg]; exact (below_size (bB)) : w.heap.size ≤ gb346)); clear HB; have HB := n0_; have BK346 := n1_; have GW346 := n2_; have GE346 := n3_; clear n0_ n1_ n2_ n3_; clear hb hbox hg) | ((with_reducible refine gate_dst (N := 3) rfl ?_); (try (refine gate_guard (by rfl) ?_; dsimp only)); refine box_event ?hg (N := 3) ?hd (cs := #[.int .i64 a1_0, .int .i64 a1_1, .slice A1_2 l1_2.length c1_2]) (t := 24) ?hr ?_; (case hd => rfl); (case hg => rfl); (case hr => first | (go_simp; done) | (go_simp; rfl)); intro gb347 hg w39 hbox hb; have n0_ := Aside0.mk (blk_below (g := gb346) (o := .cells #[.int .i64 a0_0, .int .i64 a0_1, .slice A0_2 l0_2.length c0_2] 24 (0, 0)) (bK) hb); have n1_ := Aside0.mk (below_step (bB) hb); have n2_ := Aside0.mk (hbox); have n3_ := Aside0.mk ((by rw [hg]; exact (below_size (bB)) : w.heap.size ≤ gb347)); have n4_ := Aside0.mk ((by rw [hg]; exact (below_size (bB)) : w.heap.size ≤ gb347)); have n5_ := Aside0.mk ((by rw [hg]; exact Nat.ne_of_lt (blk_lt (g := gb346) (o := .cells #[.int .i64 a0_0, .int .i64 a0_1, .slice A0_2 l0_2.length c0_2] 24 (0, 0)) (bK)) : gb346 ≠ gb347)); have n6_ := Aside0.mk ((by rw [hg]; exact Nat.ne_of_gt (blk_lt (g := gb346) (o := .cells #[.int .i64 a0_0, .int .i64 a0_1, .slice A0_2 l0_2.length c0_2] 24 (0, 0)) (bK)) : gb347 ≠ gb346)); clear BK346; clear HB; have BK346 := n0_; have HB := n1_; have BK347 := n2_; have GW347 := n3_; have GE347 := n4_; have NB346_347 := n5_; have NB347_346 := n6_; clear n0_ n1_ n2_ n3_ n4_ n5_ n6_; clear hb hbox hg; have hnb40 := NB346_347.out; have hnc40 := NB347_346.out; have hcz41_0 : w39.cell? ⟨gb346, 0, none⟩ = some (.int .i64 a0_0) := (blk_cell BK346.out 0).trans rfl; have hcz41_1 : w39.cell? ⟨gb346, 1, none⟩ = some (.int .i64 a0_1) := (blk_cell BK346.out 1).trans rfl; have hcz41_2 : w39.cell? ⟨gb346, 2, none⟩ = some (.slice A0_2 l0_2.length c0_2) := (blk_cell BK346.out 2).trans rfl; have hfz41_0 := blk_frozen BK346.out 0; have hfz41_1 := blk_frozen BK346.out 1; have hfz41_2 := blk_frozen BK346.out 2; have hcz42_0 : w39.cell? ⟨gb347, 0, none⟩ = some (.int .i64 a1_0) := (blk_cell BK347.out 0).trans rfl; have hcz42_1 : w39.cell? ⟨gb347, 1, none⟩ = some (.int .i64 a1_1) := (blk_cell BK347.out 1).trans rfl; have hcz42_2 : w39.cell? ⟨gb347, 2, none⟩ = some (.slice A1_2 l1_2.length c1_2) := (blk_cell BK347.out 2).trans rfl; have hfz42_0 := blk_frozen BK347.out 0; have hfz42_1 := blk_frozen BK347.out 1; have hfz42_2 := blk_frozen BK347.out 2) | ((with_reducible refine gate_callee (f := 73) rfl ?_); refine goesL_ (some 13) rfl rfl Try.func73 (by kernel_rfl) rfl #[.int .i64 a0_0, .int .i64 a1_0] rfl (by (try simp only [List.map_toArray, List.map_cons, List.map_nil]); first | done | rfl | (simp only [List.length_drop, List.length_take]; rfl) | (simp only [Int.ofNat_lt, Int.ofNat_le]; rfl)) ?_; (with_reducible refine (simplify_order.calls a0_0 a1_0 t348 _ A3.out).mono ?_); rintro e w' ⟨rfl, ⟨nd, rfl⟩⟩; refine ⟨_, rfl, ?_⟩))
  go_ret
  exact ⟨by first | rfl | (simp [errW_none, errW_some] <;> rfl) | (simp [*, errW_none, errW_some] <;> rfl), bB⟩
end Go.Proofs.Ytjofkebiacaciaa.PAll
end
section
namespace Go.Proofs.Ytjofkebiacaciaa.PAll
open Go.RowKit Go.Proofs.YtjofkebiacaciaaW.PrintWords Go.Proofs.YtjofkebiacaciaaW.PrintLast Go.Proofs.YtjofkebiacaciaaW.PrintMore
attribute [local go_sem] max2_int min2_int max_two min_two max_three min_three max_four min_four
set_option linter.unusedVariables false
set_option linter.unusedSimpArgs false
def expr_Compare.f (k : Nat) (a0_0 : Int) (a0_1 : Int) (l0_2 : List (S24)) (a1_0 : Int) (a1_1 : Int) (l1_2 : List (S24)) : Option (Int) := (simplify_Compare.f k a0_0 a0_1 l0_2 a1_0 a1_1 l1_2).bind fun t356 => (some t356)
theorem expr_Compare.mono : ∀ a0 a1 a2 a3 a4 a5 k, LeO (expr_Compare.f k a0 a1 a2 a3 a4 a5) (expr_Compare.f (k + 1) a0 a1 a2 a3 a4 a5) := by
 intro a0 a1 a2 a3 a4 a5 k
 unfold expr_Compare.f
 repeat' first
   | (with_reducible exact simplify_Compare.mono _ _ _ _ _ _ _)
   | (with_reducible exact LeO.refl _)
   | (with_reducible exact LeO.none _)
   | (with_reducible refine LeO.ite ?_ ?_)
   | (with_reducible refine LeO.bind ?_ (fun _ => ?_))
   | exact simplify_Compare.mono _ _ _ _ _ _ _
   | exact LeO.none _
   | refine LeO.ite ?_ ?_
   | refine LeO.bind ?_ (fun _ => ?_)
set_option maxHeartbeats 8000000 in
set_option maxRecDepth 100000 in
theorem expr_Compare.calls (k : Nat) (a0_0 : Int) (a0_1 : Int) (A0_2 : Option Addr) (c0_2 : Nat) (l0_2 : List (S24)) (a1_0 : Int) (a1_1 : Int) (A1_2 : Option Addr) (c1_2 : Nat) (l1_2 : List (S24)) (r : Int) (w : World) (hr0_2 : Kd.C k24 w A0_2 l0_2.length l0_2) (hc0_2 : l0_2.length ≤ c0_2) (hr1_2 : Kd.C k24 w A1_2 l1_2.length l1_2) (hc1_2 : l1_2.length ≤ c1_2) (h : expr_Compare.f k a0_0 a0_1 l0_2 a1_0 a1_1 l1_2 = some r) :
  Calls Try.prog 23 #[.agg #[.int .i64 a0_0, .int .i64 a0_1, .slice A0_2 l0_2.length c0_2], .agg #[.int .i64 a1_0, .int .i64 a1_1, .slice A1_2 l1_2.length c1_2]] w fun e w' => e = .returned (.int .i64 r) ∧ Below w.heap.size w w' := by
 have hu24 := Try.underlying24
 have HR0_2 := Aside0.mk hr0_2
 have HC0_2 := Aside0.mk hc0_2
 clear hr0_2 hc0_2
 have HR1_2 := Aside0.mk hr1_2
 have HC1_2 := Aside0.mk hc1_2
 clear hr1_2 hc1_2
 have HB := Aside0.mk (Below.refl w.heap.size w)
 have H : ((simplify_Compare.f k a0_0 a0_1 l0_2 a1_0 a1_1 l1_2).bind fun t356 => (some t356)) = some r := h
 clear h
 replace H := Option.bind_eq_some_iff.mp H
 obtain ⟨t356, A30, H⟩ := H
 replace H : (some t356) = some r := H
 have A3 := Aside0.mk A30
 clear A30
 obtain rfl := Option.some.inj H
 go_enter Try.func23, Try.ntmps23
 go_wp2_with (first | ((with_reducible refine gate_dst (N := 2) rfl ?_); refine box_event ?hg (N := 2) ?hd (cs := #[.int .i64 a0_0, .int .i64 a0_1, .slice A0_2 l0_2.length c0_2]) (t := 24) ?hr ?_; (case hd => rfl); (case hg => rfl); (case hr => first | (go_simp; done) | (go_simp; rfl)); intro gb354 hg w4 hbox hb; have n0_ := Aside0.mk (below_step (bB) hb); have n1_ := Aside0.mk (hbox); have n2_ := Aside0.mk ((by rw [hg]; exact (below_size (bB)) : w.heap.size ≤ gb354)); have n3_ := Aside0.mk ((by rw [hg]; exact (below_size (bB)) : w.heap.size ≤ gb354)); clear HB; have HB := n0_; have BK354 := n1_; have GW354 := n2_; have GE354 := n3_; clear n0_ n1_ n2_ n3_; clear hb hbox hg) | ((with_reducible refine gate_dst (N := 3) rfl ?_); refine box_event ?hg (N := 3) ?hd (cs := #[.int .i64 a1_0, .int .i64 a1_1, .slice A1_2 l1_2.length c1_2]) (t := 24) ?hr ?_; (case hd => rfl); (case hg => rfl); (case hr => first | (go_simp; done) | (go_simp; rfl)); intro gb355 hg w5 hbox hb; have n0_ := Aside0.mk (blk_below (g := gb354) (o := .cells #[.int .i64 a0_0, .int .i64 a0_1, .slice A0_2 l0_2.length c0_2] 24 (0, 0)) (bK) hb); have n1_ := Aside0.mk (below_step (bB) hb); have n2_ := Aside0.mk (hbox); have n3_ := Aside0.mk ((by rw [hg]; exact (below_size (bB)) : w.heap.size ≤ gb355)); have n4_ := Aside0.mk ((by rw [hg]; exact (below_size (bB)) : w.heap.size ≤ gb355)); have n5_ := Aside0.mk ((by rw [hg]; exact Nat.ne_of_lt (blk_lt (g := gb354) (o := .cells #[.int .i64 a0_0, .int .i64 a0_1, .slice A0_2 l0_2.length c0_2] 24 (0, 0)) (bK)) : gb354 ≠ gb355)); have n6_ := Aside0.mk ((by rw [hg]; exact Nat.ne_of_gt (blk_lt (g := gb354) (o := .cells #[.int .i64 a0_0, .int .i64 a0_1, .slice A0_2 l0_2.length c0_2] 24 (0, 0)) (bK)) : gb355 ≠ gb354)); clear BK354; clear HB; have BK354 := n0_; have HB := n1_; have BK355 := n2_; have GW355 := n3_; have GE355 := n4_; have NB354_355 := n5_; have NB355_354 := n6_; clear n0_ n1_ n2_ n3_ n4_ n5_ n6_; clear hb hbox hg; have hnb6 := NB354_355.out; have hnc6 := NB355_354.out; have hcz7_0 : w5.cell? ⟨gb354, 0, none⟩ = some (.int .i64 a0_0) := (blk_cell BK354.out 0).trans rfl; have hcz7_1 : w5.cell? ⟨gb354, 1, none⟩ = some (.int .i64 a0_1) := (blk_cell BK354.out 1).trans rfl; have hcz7_2 : w5.cell? ⟨gb354, 2, none⟩ = some (.slice A0_2 l0_2.length c0_2) := (blk_cell BK354.out 2).trans rfl; have hfz7_0 := blk_frozen BK354.out 0; have hfz7_1 := blk_frozen BK354.out 1; have hfz7_2 := blk_frozen BK354.out 2; have hcz8_0 : w5.cell? ⟨gb355, 0, none⟩ = some (.int .i64 a1_0) := (blk_cell BK355.out 0).trans rfl; have hcz8_1 : w5.cell? ⟨gb355, 1, none⟩ = some (.int .i64 a1_1) := (blk_cell BK355.out 1).trans rfl; have hcz8_2 : w5.cell? ⟨gb355, 2, none⟩ = some (.slice A1_2 l1_2.length c1_2) := (blk_cell BK355.out 2).trans rfl; have hfz8_0 := blk_frozen BK355.out 0; have hfz8_1 := blk_frozen BK355.out 1; have hfz8_2 := blk_frozen BK355.out 2) | ((with_reducible refine gate_callee (f := 52) rfl ?_); refine goesL_ (some 7) rfl rfl Try.func52 (by kernel_rfl) rfl #[.agg #[.int .i64 a0_0, .int .i64 a0_1, .slice A0_2 l0_2.length c0_2], .agg #[.int .i64 a1_0, .int .i64 a1_1, .slice A1_2 l1_2.length c1_2]] rfl (by (try simp only [List.map_toArray, List.map_cons, List.map_nil]); first | done | rfl | (simp only [List.length_drop, List.length_take]; rfl) | (simp only [Int.ofNat_lt, Int.ofNat_le]; rfl)) ?_; (with_reducible refine (simplify_Compare.calls k a0_0 a0_1 _ _ l0_2 a1_0 a1_1 _ _ l1_2 t356 _ ?side1 ?side2 ?side3 ?side4 A3.out).mono ?_); (case side1 => repeat (first | exact (Kd.C_below HR0_2.out HB.out) | (with_reducible refine Kd.C_alloc ?_ _) | (with_reducible refine Kd.C_drewN ?_ _) | (with_reducible refine Kd.C_drew ?_))); (case side2 => exact HC0_2.out); (case side3 => repeat (first | exact (Kd.C_below HR1_2.out HB.out) | (with_reducible refine Kd.C_alloc ?_ _) | (with_reducible refine Kd.C_drewN ?_ _) | (with_reducible refine Kd.C_drew ?_))); (case side4 => exact HC1_2.out); rintro e w9 ⟨rfl, hb⟩; refine ⟨_, rfl, ?_⟩; have n0_ := Aside0.mk (blk_below (g := gb354) (o := .cells #[.int .i64 a0_0, .int .i64 a0_1, .slice A0_2 l0_2.length c0_2] 24 (0, 0)) (bK) hb); have n1_ := Aside0.mk (blk_below (g := gb355) (o := .cells #[.int .i64 a1_0, .int .i64 a1_1, .slice A1_2 l1_2.length c1_2] 24 (0, 0)) (bK) hb); have n2_ := Aside0.mk (below_step (bB) hb); clear BK354; clear BK355; clear HB; have BK354 := n0_; have BK355 := n1_; have HB := n2_; clear n0_ n1_ n2_; (try clear hb); (try clear hb2); (try clear hk); (try clear hi)))
 go_ret
 exact ⟨by first | rfl | (simp [errW_none, errW_some] <;> rfl) | (simp [*, errW_none, errW_some] <;> rfl), bB⟩
end Go.Proofs.Ytjofkebiacaciaa.PAll
end
section
namespace Go.Proofs.Ytjofkebiacaciaa.T04
open Go Go.RowKit Go.Proofs.Ytjofkebiacaciaa.PAll Go.Proofs.YtjofkebiacaciaaW.PrintWords Go.Proofs.YtjofkebiacaciaaW.PrintLast Go.Proofs.YtjofkebiacaciaaW.PrintMore Go.Proofs.Ytjofkebiacaciaa.AllRead24
set_option linter.all false
def ordI (a b : Int) : Int := if a < b then -1 else if a > b then 1 else 0
mutual
def cmp : S24 → S24 → Int
 | ⟨o, a, l⟩, ⟨p, b, m⟩ => if ordI o p = 0 then (if ordI a b = 0 then cmps l m else ordI a b) else ordI o p
def cmps : List S24 → List S24 → Int
 | [], [] => 0
 | [], _ :: _ => -1
 | _ :: _, [] => 1
 | x :: r, y :: s => if cmp x y = 0 then cmps r s else cmp x y
end
theorem cmp_mk (x y : S24) : cmp x y = if ordI x.f0 y.f0 = 0 then (if ordI x.f1 y.f1 = 0 then cmps x.f2 y.f2 else ordI x.f1 y.f1) else ordI x.f0 y.f0 := by cases x; cases y; rw [cmp]
theorem order_some (a b : Int) : simplify_order.f a b = some (ordI a b) := by
 unfold simplify_order.f ordI
 split
 ·rfl
 ·split <;> rfl
theorem sign_some (b : Bool) : semigroupref04_sign.f b = some (if b = true then -1 else 1) := by
 unfold semigroupref04_sign.f; cases b <;> rfl
theorem ordI_zero {a b : Int} : ordI a b = 0 ↔ a = b := by
 unfold ordI; split
 ·simp; omega
 ·split
  ·simp; omega
  ·simp; omega
theorem ordI_ne {a b : Int} (h : a ≠ b) : ordI a b = if decide (a < b) = true then -1 else 1 := by
 unfold ordI
 by_cases h1 : a < b
 ·simp [h1]
 ·simp [h1]; omega
theorem tail_order {l m pre pre' r s : List S24} (hl : l = pre ++ r) (hm : m = pre' ++ s) (hp : pre.length = pre'.length) (he : r = [] ∨ s = []) : ordI (l.length : Int) (m.length : Int) = cmps r s := by
 subst hl hm
 unfold ordI
 cases r with
 | nil => cases s with
  | nil => simp [cmps, hp]
  | cons y s => simp [cmps, hp]; omega
 | cons x r => cases s with
  | nil => simp [cmps, hp]; omega
  | cons y s => rcases he with h | h <;> cases h
theorem cmp_prog (x : S24) : WF x → ∀ y, WF y → Ev (fun k => simplify_Compare.f k x.f0 x.f1 x.f2 y.f0 y.f1 y.f2) (cmp x y) := by
 induction x using ind with
 | h x ih =>
 intro hx y hy
 have loop : ∀ (r pre : List S24), x.f2 = pre ++ r → ∀ (s pre' : List S24), y.f2 = pre' ++ s → pre.length = pre'.length → Ev (fun k => simplify_Compare.l0 k (pre.length : Int) x.f0 x.f1 x.f2 y.f0 y.f1 y.f2) (cmps r s) := by
  intro r
  induction r with
  | nil =>
   intro pre hp s pre' hp' hl
   have ht := tail_order hp hp' hl (.inl rfl)
   refine Ev.step (f := fun k => simplify_Compare.j1 k (pre.length : Int) false x.f0 x.f1 x.f2 y.f0 y.f1 y.f2) (fun k => by simp only [simplify_Compare.l0]; rw [hp, if_neg (not_lt_end pre)]) ?_
   exact Ev.step (f := fun _ => some (cmps [] s)) (fun k => by simp only [simplify_Compare.j1]; rw [if_neg (by decide), order_some, ht]; rfl) (Ev.now _)
  | cons a r ihr =>
   intro pre hp s pre' hp' hl
   have ha : a ∈ x.f2 := by rw [hp]; simp
   have hlt : (pre.length : Int) < (x.f2.length : Int) := by rw [hp]; exact lt_mid pre a r
   cases s with
   | nil =>
    have ht := tail_order hp hp' hl (.inr rfl)
    have hnl : ¬ (pre.length : Int) < (y.f2.length : Int) := by rw [hp', hl]; exact not_lt_end pre'
    refine Ev.step (f := fun k => simplify_Compare.j1 k (pre.length : Int) false x.f0 x.f1 x.f2 y.f0 y.f1 y.f2) (fun k => by simp only [simplify_Compare.l0]; rw [if_pos hlt, decide_eq_false hnl]) ?_
    exact Ev.step (f := fun _ => some (cmps (a :: r) [])) (fun k => by simp only [simplify_Compare.j1]; rw [if_neg (by decide), order_some, ht]; rfl) (Ev.now _)
   | cons b s =>
    have hlt' : (pre.length : Int) < (y.f2.length : Int) := by rw [hp', hl]; exact lt_mid pre' b s
    have hb : b ∈ y.f2 := by rw [hp']; simp
    have e1 : rd_T24 x.f2 (pre.length : Int) = a := by rw [hp]; exact rd_mid pre a r
    have e2 : rd_T24 y.f2 (pre.length : Int) = b := by rw [hp', hl]; exact rd_mid pre' b s
    have hn : wrap64 ((pre.length : Int) + 1) = ((pre ++ [a]).length : Int) := next_mid (r := r) (x := a) (by rw [← hp]; exact hx.len)
    refine Ev.step (f := fun k => simplify_Compare.j1 k (pre.length : Int) true x.f0 x.f1 x.f2 y.f0 y.f1 y.f2) (fun k => by simp only [simplify_Compare.l0]; rw [if_pos hlt, decide_eq_true hlt']) ?_
    refine Ev.step (f := fun k => (simplify_Compare.f k a.f0 a.f1 a.f2 b.f0 b.f1 b.f2).bind fun t => if t = 0 then simplify_Compare.l0 k ((pre ++ [a]).length : Int) x.f0 x.f1 x.f2 y.f0 y.f1 y.f2 else some t) (fun k => by simp only [simplify_Compare.j1]; rw [if_pos trivial, if_pos (ge0 _), if_pos hlt, if_pos hlt', e1, e2, hn]) ?_
    refine Ev.bind (ih a ha (hx.kid ha) b (hy.kid hb)) ?_
    rw [cmps]
    exact Ev.if (fun _ => ihr (pre ++ [a]) (by rw [hp]; exact shift_mid pre a r) s (pre' ++ [b]) (by rw [hp']; exact shift_mid pre' b s) (by simp [hl])) (fun _ => Ev.now _)
 refine Ev.step (f := fun k => if ordI x.f0 y.f0 = 0 then (if ordI x.f1 y.f1 = 0 then simplify_Compare.l0 k 0 x.f0 x.f1 x.f2 y.f0 y.f1 y.f2 else some (ordI x.f1 y.f1)) else some (ordI x.f0 y.f0)) (fun k => by simp only [simplify_Compare.f, order_some, Option.bind_some]) ?_
 rw [cmp_mk]
 exact Ev.if (fun _ => Ev.if (fun _ => loop x.f2 [] rfl y.f2 [] rfl rfl) (fun _ => Ev.now _)) (fun _ => Ev.now _)
theorem cmp_ref (x : S24) : WF x → ∀ y, WF y → Ev (fun k => semigroupref04_Compare.f k x.f0 x.f1 x.f2 y.f0 y.f1 y.f2) (cmp x y) := by
 induction x using ind with
 | h x ih =>
 intro hx y hy
 have fin : ∀ {r s pre pre' : List S24}, x.f2 = pre ++ r → y.f2 = pre' ++ s → pre.length = pre'.length → r = [] ∨ s = [] → Ev (fun k => semigroupref04_Compare.j1 k (pre.length : Int) false x.f0 x.f1 x.f2 y.f0 y.f1 y.f2) (cmps r s) := by
  intro r s pre pre' hp hp' hl he
  have ht := tail_order hp hp' hl he
  by_cases e : (x.f2.length : Int) = (y.f2.length : Int)
  ·exact Ev.step (f := fun _ => some (cmps r s)) (fun k => by simp only [semigroupref04_Compare.j1]; rw [if_neg (by decide), if_pos e, ← ht, ordI_zero.mpr e]) (Ev.now _)
  ·exact Ev.step (f := fun _ => some (cmps r s)) (fun k => by simp only [semigroupref04_Compare.j1]; rw [if_neg (by decide), if_neg e, sign_some, ← ht, ordI_ne e]; rfl) (Ev.now _)
 have loop : ∀ (r pre : List S24), x.f2 = pre ++ r → ∀ (s pre' : List S24), y.f2 = pre' ++ s → pre.length = pre'.length → Ev (fun k => semigroupref04_Compare.l0 k (pre.length : Int) x.f0 x.f1 x.f2 y.f0 y.f1 y.f2) (cmps r s) := by
  intro r
  induction r with
  | nil =>
   intro pre hp s pre' hp' hl
   exact Ev.step (f := fun k => semigroupref04_Compare.j1 k (pre.length : Int) false x.f0 x.f1 x.f2 y.f0 y.f1 y.f2) (fun k => by simp only [semigroupref04_Compare.l0]; rw [hp, if_neg (not_lt_end pre)]) (fin hp hp' hl (.inl rfl))
  | cons a r ihr =>
   intro pre hp s pre' hp' hl
   have ha : a ∈ x.f2 := by rw [hp]; simp
   have hlt : (pre.length : Int) < (x.f2.length : Int) := by rw [hp]; exact lt_mid pre a r
   cases s with
   | nil =>
    have hnl : ¬ (pre.length : Int) < (y.f2.length : Int) := by rw [hp', hl]; exact not_lt_end pre'
    exact Ev.step (f := fun k => semigroupref04_Compare.j1 k (pre.length : Int) false x.f0 x.f1 x.f2 y.f0 y.f1 y.f2) (fun k => by simp only [semigroupref04_Compare.l0]; rw [if_pos hlt, decide_eq_false hnl]) (fin hp hp' hl (.inr rfl))
   | cons b s =>
    have hlt' : (pre.length : Int) < (y.f2.length : Int) := by rw [hp', hl]; exact lt_mid pre' b s
    have hb : b ∈ y.f2 := by rw [hp']; simp
    have e1 : rd_T24 x.f2 (pre.length : Int) = a := by rw [hp]; exact rd_mid pre a r
    have e2 : rd_T24 y.f2 (pre.length : Int) = b := by rw [hp', hl]; exact rd_mid pre' b s
    have hn : wrap64 ((pre.length : Int) + 1) = ((pre ++ [a]).length : Int) := next_mid (r := r) (x := a) (by rw [← hp]; exact hx.len)
    refine Ev.step (f := fun k => semigroupref04_Compare.j1 k (pre.length : Int) true x.f0 x.f1 x.f2 y.f0 y.f1 y.f2) (fun k => by simp only [semigroupref04_Compare.l0]; rw [if_pos hlt, decide_eq_true hlt']) ?_
    refine Ev.step (f := fun k => (semigroupref04_Compare.f k a.f0 a.f1 a.f2 b.f0 b.f1 b.f2).bind fun t => if t = 0 then semigroupref04_Compare.l0 k ((pre ++ [a]).length : Int) x.f0 x.f1 x.f2 y.f0 y.f1 y.f2 else some t) (fun k => by simp only [semigroupref04_Compare.j1]; rw [if_pos trivial, if_pos (ge0 _), if_pos hlt, if_pos hlt', e1, e2, hn]) ?_
    refine Ev.bind (ih a ha (hx.kid ha) b (hy.kid hb)) ?_
    rw [cmps]
    exact Ev.if (fun _ => ihr (pre ++ [a]) (by rw [hp]; exact shift_mid pre a r) s (pre' ++ [b]) (by rw [hp']; exact shift_mid pre' b s) (by simp [hl])) (fun _ => Ev.now _)
 by_cases h0 : x.f0 = y.f0
 ·by_cases h1 : x.f1 = y.f1
  ·refine Ev.step (f := fun k => semigroupref04_Compare.l0 k 0 x.f0 x.f1 x.f2 y.f0 y.f1 y.f2) (fun k => by simp only [semigroupref04_Compare.f]; rw [if_pos h0, if_pos h1]) ?_
   rw [cmp_mk, if_pos (ordI_zero.mpr h0), if_pos (ordI_zero.mpr h1)]
   exact loop x.f2 [] rfl y.f2 [] rfl rfl
  ·refine Ev.step (f := fun k => some (cmp x y)) (fun k => by simp only [semigroupref04_Compare.f]; rw [if_pos h0, if_neg h1, sign_some, cmp_mk, if_pos (ordI_zero.mpr h0), if_neg (fun h => h1 (ordI_zero.mp h)), ordI_ne h1]; rfl) (Ev.now _)
 ·refine Ev.step (f := fun k => some (cmp x y)) (fun k => by simp only [semigroupref04_Compare.f]; rw [if_neg h0, sign_some, cmp_mk, if_neg (fun h => h0 (ordI_zero.mp h)), ordI_ne h0]; rfl) (Ev.now _)
theorem ordI_anti (a b : Int) : ordI b a = - ordI a b := by
 unfold ordI; split <;> split <;> (try split) <;> omega
theorem cmp_anti (x : S24) : ∀ y, cmp y x = - cmp x y := by
 induction x using ind with
 | h x ih =>
 intro y
 have ihs : ∀ l : List S24, (∀ k, k ∈ l → ∀ y, cmp y k = - cmp k y) → ∀ m, cmps m l = - cmps l m := by
  intro l
  induction l with
  | nil => intro _ m; cases m <;> simp [cmps]
  | cons a r ihr =>
   intro h m
   cases m with
   | nil => simp [cmps]
   | cons b s =>
    have h1 := h a (by simp) b
    have h2 := ihr (fun k hk => h k (by simp [hk])) s
    rw [cmps, cmps, h1, h2]
    by_cases hz : cmp a b = 0
    ·simp [hz]
    ·have : ¬ (- cmp a b = 0) := by omega
     rw [if_neg hz, if_neg this]
 rw [cmp_mk, cmp_mk x, ordI_anti x.f0 y.f0, ordI_anti x.f1 y.f1, ihs x.f2 ih y.f2]
 by_cases h0 : ordI x.f0 y.f0 = 0
 ·by_cases h1 : ordI x.f1 y.f1 = 0
  ·simp [h0, h1]
  ·have : ¬ (- ordI x.f1 y.f1 = 0) := by omega
   simp [h0, h1]
 ·simp [h0]
theorem cmp_refl (x : S24) : cmp x x = 0 := by
 have := cmp_anti x x
 omega
theorem ordI_trans {a b c : Int} (h1 : ordI a b ≤ 0) (h2 : ordI b c ≤ 0) : ordI a c ≤ 0 ∧ (ordI a c = 0 → ordI a b = 0 ∧ ordI b c = 0) := by
 have q1 : a ≤ b := by unfold ordI at h1; split at h1 <;> (try split at h1) <;> omega
 have q2 : b ≤ c := by unfold ordI at h2; split at h2 <;> (try split at h2) <;> omega
 refine ⟨?_, fun h => ?_⟩
 ·unfold ordI; split
  ·omega
  ·split <;> omega
 ·have := ordI_zero.mp h
  exact ⟨ordI_zero.mpr (by omega), ordI_zero.mpr (by omega)⟩
theorem cmp_trans (x : S24) : ∀ y z, cmp x y ≤ 0 → cmp y z ≤ 0 → cmp x z ≤ 0 ∧ (cmp x z = 0 → cmp x y = 0 ∧ cmp y z = 0) := by
 induction x using ind with
 | h x ih =>
 intro y z h1 h2
 have ihs : ∀ l : List S24, (∀ k, k ∈ l → ∀ y z, cmp k y ≤ 0 → cmp y z ≤ 0 → cmp k z ≤ 0 ∧ (cmp k z = 0 → cmp k y = 0 ∧ cmp y z = 0)) → ∀ m n, cmps l m ≤ 0 → cmps m n ≤ 0 → cmps l n ≤ 0 ∧ (cmps l n = 0 → cmps l m = 0 ∧ cmps m n = 0) := by
  intro l
  induction l with
  | nil => intro _ m n h1 h2; cases m <;> cases n <;> simp [cmps] at h1 h2 ⊢
  | cons a r ihr =>
   intro hk m n h1 h2
   cases m with
   | nil => simp [cmps] at h1
   | cons b s =>
    cases n with
    | nil => simp [cmps] at h2
    | cons c t =>
     rw [cmps] at h1 h2 ⊢
     rw [cmps, cmps]
     have g1 : cmp a b ≤ 0 := by by_cases hz : cmp a b = 0 <;> simp [hz] at h1 <;> omega
     have g2 : cmp b c ≤ 0 := by by_cases hz : cmp b c = 0 <;> simp [hz] at h2 <;> omega
     obtain ⟨k1, k2⟩ := hk a (by simp) b c g1 g2
     by_cases hz : cmp a c = 0
     ·obtain ⟨z1, z2⟩ := k2 hz
      rw [if_pos z1] at h1 ⊢
      rw [if_pos z2] at h2 ⊢
      rw [if_pos hz]
      exact ihr (fun k hk' => hk k (by simp [hk'])) s t h1 h2
     ·rw [if_neg hz]
      exact ⟨k1, fun h => absurd h hz⟩
 rw [cmp_mk] at h1 h2 ⊢
 rw [cmp_mk x y, cmp_mk y z]
 have g1 : ordI x.f0 y.f0 ≤ 0 := by by_cases hz : ordI x.f0 y.f0 = 0 <;> simp [hz] at h1 <;> omega
 have g2 : ordI y.f0 z.f0 ≤ 0 := by by_cases hz : ordI y.f0 z.f0 = 0 <;> simp [hz] at h2 <;> omega
 obtain ⟨k1, k2⟩ := ordI_trans g1 g2
 by_cases hz : ordI x.f0 z.f0 = 0
 ·obtain ⟨z1, z2⟩ := k2 hz
  rw [if_pos z1] at h1 ⊢
  rw [if_pos z2] at h2 ⊢
  rw [if_pos hz]
  have g1 : ordI x.f1 y.f1 ≤ 0 := by by_cases hz : ordI x.f1 y.f1 = 0 <;> simp [hz] at h1 <;> omega
  have g2 : ordI y.f1 z.f1 ≤ 0 := by by_cases hz : ordI y.f1 z.f1 = 0 <;> simp [hz] at h2 <;> omega
  obtain ⟨k1, k2⟩ := ordI_trans g1 g2
  by_cases hz : ordI x.f1 z.f1 = 0
  ·obtain ⟨z1, z2⟩ := k2 hz
   rw [if_pos z1] at h1 ⊢
   rw [if_pos z2] at h2 ⊢
   rw [if_pos hz]
   exact ihs x.f2 ih y.f2 z.f2 h1 h2
  ·rw [if_neg hz]
   exact ⟨k1, fun h => absurd h hz⟩
 ·rw [if_neg hz]
  exact ⟨k1, fun h => absurd h hz⟩
theorem cmp_range (x : S24) : ∀ y, -1 ≤ cmp x y ∧ cmp x y ≤ 1 := by
 induction x using ind with
 | h x ih =>
 intro y
 have o : ∀ a b, -1 ≤ ordI a b ∧ ordI a b ≤ 1 := fun a b => by unfold ordI; split <;> (try split) <;> omega
 have ihs : ∀ l : List S24, (∀ k, k ∈ l → ∀ y, -1 ≤ cmp k y ∧ cmp k y ≤ 1) → ∀ m, -1 ≤ cmps l m ∧ cmps l m ≤ 1 := by
  intro l
  induction l with
  | nil => intro _ m; cases m <;> simp [cmps]
  | cons a r ihr =>
   intro hk m
   cases m with
   | nil => simp [cmps]
   | cons b s =>
    rw [cmps]
    split
    ·exact ihr (fun k hk' => hk k (by simp [hk'])) s
    ·exact hk a (by simp) b
 rw [cmp_mk]
 split
 ·split
  ·exact ihs x.f2 ih y.f2
  ·exact o _ _
 ·exact o _ _
theorem same_ev (x y : S24) (hx : WF x) (hy : WF y) : Ev (fun k => semigrouplaw04_same.f k x.f0 x.f1 x.f2 y.f0 y.f1 y.f2) (cmp x y == 0) :=
 Ev.congr (f := fun k => (semigroupref04_Compare.f k x.f0 x.f1 x.f2 y.f0 y.f1 y.f2).bind fun t => some (t == 0)) (fun k => by simp only [semigrouplaw04_same.f]) (Ev.bind (f := fun _ t => some (t == 0)) (cmp_ref x hx y hy) (Ev.now _))
theorem expr_cmp_ev (x y : S24) (hx : WF x) (hy : WF y) : Ev (fun k => expr_Compare.f k x.f0 x.f1 x.f2 y.f0 y.f1 y.f2) (cmp x y) :=
 Ev.congr (f := fun k => (simplify_Compare.f k x.f0 x.f1 x.f2 y.f0 y.f1 y.f2).bind fun t => some t) (fun k => by simp only [expr_Compare.f]) (Ev.bind (f := fun _ t => some t) (cmp_prog x hx y hy) (Ev.now _))
end Go.Proofs.Ytjofkebiacaciaa.T04
end
section
namespace Go.Proofs.Ytjofkebiacaciaa.Pure
open Go Go.RowKit Go.Proofs.Ytjofkebiacaciaa.PAll Go.Proofs.YtjofkebiacaciaaW.PrintWords Go.Proofs.YtjofkebiacaciaaW.PrintLast Go.Proofs.Ytjofkebiacaciaa.AllRead24 Go.Proofs.Ytjofkebiacaciaa.T04
set_option linter.all false
theorem ExprRoundTrips (e : S24) (he : WF e) : ∃ k, semigrouplaw04_ExprRoundTrips.f k e.f0 e.f1 e.f2 = some true := by
 have aw : Ev (fun k => (semigrouplaw04_awake.f k).bind fun z => some z) true := Ev.bind (f := fun _ z => some z) awake_ev (Ev.now _)
 refine Ev.rounds (g := fun k => semigrouplaw04_ExprRoundTrips.f k e.f0 e.f1 e.f2) ?_
 refine Ev.congr (fun k => by simp only [semigrouplaw04_ExprRoundTrips.f]; rfl) ?_
 refine Ev.bind (valid_ref e he) ?_
 by_cases hg : Vld e
 ·rw [decide_eq_true hg]
  simp only [if_true]
  have fp := format_prog e he
  rw [if_pos hg] at fp
  refine Ev.bind fp ?_
  refine Ev.bind (parse_ev e he hg) ?_
  have bl := body_len e
  have hz := hg.1.1
  have hl : ¬ (((strOfNums (body e)).size : Int) > 4096) := by rw [strOf_size']; omega
  simp only [if_neg hl, if_true]
  have sm := same_ev e e he he
  rw [cmp_refl] at sm
  refine Ev.bind sm ?_
  simp only [beq_self_eq_true, if_true]
  exact aw
 ·rw [decide_eq_false hg]
  simp only [if_neg (show ¬ (false = true) by decide)]
  exact aw
end Go.Proofs.Ytjofkebiacaciaa.Pure
end
