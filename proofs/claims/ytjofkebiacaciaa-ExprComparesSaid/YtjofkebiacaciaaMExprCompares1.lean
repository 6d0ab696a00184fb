/- The functions that the laws of this seat reach, a proof for each that the Go code comes to them, and the plain laws; merged. Conditions: none beside those of the given statements. -/
import Derived.Test.YtjofkebiacaciaaMc14
import Derived.Test.YtjofkebiacaciaaMc16
section
namespace Go.Proofs.Ytjofkebiacaciaa.PAll
open Go.RowKit Go.Proofs.YtjofkebiacaciaaW.PrintWords Go.Proofs.YtjofkebiacaciaaW.PrintLast Go.Proofs.YtjofkebiacaciaaW.PrintMore
attribute [local go_sem] max2_int min2_int max_two min_two max_three min_three max_four min_four
set_option linter.unusedVariables false
set_option linter.unusedSimpArgs false
def semigroupref04_sign.f (a0 : Bool) : Option (Int) := if a0 = true then (some (-1)) else (some 1)
set_option maxHeartbeats 8000000 in
set_option maxRecDepth 100000 in
theorem semigroupref04_sign.calls (a0 : Bool) (r : Int) (w : World) (h : semigroupref04_sign.f a0 = some r) :
  Calls Try.prog 53 #[.bool a0] w fun e w' => e = .returned (.int .i64 r) ∧ Drawn0 w w' := by
 have H : (if a0 = true then (some (-1)) else (some 1)) = some r := h
 clear h
 by_cases c2 : a0 = true
 ·subst c2
  have H1 : (some (-1)) = some r := by rw [if_pos rfl] at H; exact H
  clear H
  have H := H1
  clear H1
  obtain rfl := Option.some.inj H
  go_enter Try.func53, Try.ntmps53
  go_wp2
  go_ret
  exact ⟨by first | rfl | (simp; done) | (simp [*]; done), by repeat (first | exact Drawn0.refl _ | apply Drawn0.step)⟩
 ·replace c2 := Bool.eq_false_iff.mpr c2
  subst c2
  have H1 : (some 1) = some r := by rw [if_neg (show ¬ (false = true) by decide)] at H; exact H
  clear H
  have H := H1
  clear H1
  obtain rfl := Option.some.inj H
  go_enter Try.func53, Try.ntmps53
  go_wp2
  go_ret
  exact ⟨by first | rfl | (simp; done) | (simp [*]; done), by repeat (first | exact Drawn0.refl _ | apply Drawn0.step)⟩
end Go.Proofs.Ytjofkebiacaciaa.PAll
end
section
namespace Go.Proofs.Ytjofkebiacaciaa.PAll
open Go.RowKit Go.Proofs.YtjofkebiacaciaaW.PrintWords Go.Proofs.YtjofkebiacaciaaW.PrintLast Go.Proofs.YtjofkebiacaciaaW.PrintMore
attribute [local go_sem] max2_int min2_int max_two min_two max_three min_three max_four min_four
set_option linter.unusedVariables false
set_option linter.unusedSimpArgs false
mutual
def semigroupref04_Compare.l0 : Nat → Int → Int → Int → List (S24) → Int → Int → List (S24) → Option (Int)
 | 0, _, _, _, _, _, _, _ => none
 | k + 1, x5, x321000, x321001, x321002, x322000, x322001, x322002 => if x5 < (x321002.length : Int) then (semigroupref04_Compare.j1 k x5 (decide (x5 < (x322002.length : Int))) x321000 x321001 x321002 x322000 x322001 x322002) else (semigroupref04_Compare.j1 k x5 false x321000 x321001 x321002 x322000 x322001 x322002)
def semigroupref04_Compare.j1 : Nat → Int → Bool → Int → Int → List (S24) → Int → Int → List (S24) → Option (Int)
 | 0, _, _, _, _, _, _, _, _ => none
 | k + 1, x5, x42, x321000, x321001, x321002, x322000, x322001, x322002 => if x42 = true then (if 0 ≤ x5 then (if x5 < (x321002.length : Int) then (if x5 < (x322002.length : Int) then ((semigroupref04_Compare.f k ((rd_T24 x321002 x5).f0) ((rd_T24 x321002 x5).f1) ((rd_T24 x321002 x5).f2) ((rd_T24 x322002 x5).f0) ((rd_T24 x322002 x5).f1) ((rd_T24 x322002 x5).f2)).bind fun t326 => (if t326 = 0 then (semigroupref04_Compare.l0 k (wrap64 (x5 + 1)) x321000 x321001 x321002 x322000 x322001 x322002) else (some t326))) else (none)) else (none)) else (none)) else (if (x321002.length : Int) = (x322002.length : Int) then (some 0) else ((semigroupref04_sign.f (decide ((x321002.length : Int) < (x322002.length : Int)))).bind fun t327 => (some t327)))
def semigroupref04_Compare.f : Nat → Int → Int → List (S24) → Int → Int → List (S24) → Option (Int)
 | 0, _, _, _, _, _, _ => none
 | k + 1, a0_0, a0_1, l0_2, a1_0, a1_1, l1_2 => if a0_0 = a1_0 then (if a0_1 = a1_1 then (semigroupref04_Compare.l0 k 0 a0_0 a0_1 l0_2 a1_0 a1_1 l1_2) else ((semigroupref04_sign.f (decide (a0_1 < a1_1))).bind fun t322 => (some t322))) else ((semigroupref04_sign.f (decide (a0_0 < a1_0))).bind fun t323 => (some t323))
end
theorem semigroupref04_Compare.mono_l : ∀ k, (∀ y0 y1 y2 y3 y4 y5, LeO (semigroupref04_Compare.f k y0 y1 y2 y3 y4 y5) (semigroupref04_Compare.f (k + 1) y0 y1 y2 y3 y4 y5)) ∧ (∀ y0 y1 y2 y3 y4 y5 y6, LeO (semigroupref04_Compare.l0 k y0 y1 y2 y3 y4 y5 y6) (semigroupref04_Compare.l0 (k + 1) y0 y1 y2 y3 y4 y5 y6)) ∧ (∀ y0 y1 y2 y3 y4 y5 y6 y7, LeO (semigroupref04_Compare.j1 k y0 y1 y2 y3 y4 y5 y6 y7) (semigroupref04_Compare.j1 (k + 1) y0 y1 y2 y3 y4 y5 y6 y7))
 | 0 => ⟨fun _ _ _ _ _ _ r h => by simp [semigroupref04_Compare.f] at h, fun _ _ _ _ _ _ _ r h => by simp [semigroupref04_Compare.l0] at h, fun _ _ _ _ _ _ _ _ r h => by simp [semigroupref04_Compare.j1] at h⟩
 | k + 1 => by
  obtain ⟨ih0, ih1, ih2⟩ := semigroupref04_Compare.mono_l k
  refine ⟨?_, ?_, ?_⟩
  ·intro y0 y1 y2 y3 y4 y5
   unfold semigroupref04_Compare.f
   repeat' first
   | (with_reducible exact ih0 _ _ _ _ _ _)
   | (with_reducible exact ih1 _ _ _ _ _ _ _)
   | (with_reducible exact ih2 _ _ _ _ _ _ _ _)
   | (with_reducible exact LeO.refl _)
   | (with_reducible exact LeO.none _)
   | (with_reducible refine LeO.ite ?_ ?_)
   | (with_reducible refine LeO.bind ?_ (fun _ => ?_))
   | exact ih0 _ _ _ _ _ _
   | exact ih1 _ _ _ _ _ _ _
   | exact ih2 _ _ _ _ _ _ _ _
   | exact LeO.none _
   | refine LeO.ite ?_ ?_
   | refine LeO.bind ?_ (fun _ => ?_)
  ·intro y0 y1 y2 y3 y4 y5 y6
   unfold semigroupref04_Compare.l0
   repeat' first
   | (with_reducible exact ih0 _ _ _ _ _ _)
   | (with_reducible exact ih1 _ _ _ _ _ _ _)
   | (with_reducible exact ih2 _ _ _ _ _ _ _ _)
   | (with_reducible exact LeO.refl _)
   | (with_reducible exact LeO.none _)
   | (with_reducible refine LeO.ite ?_ ?_)
   | (with_reducible refine LeO.bind ?_ (fun _ => ?_))
   | exact ih0 _ _ _ _ _ _
   | exact ih1 _ _ _ _ _ _ _
   | exact ih2 _ _ _ _ _ _ _ _
   | exact LeO.none _
   | refine LeO.ite ?_ ?_
   | refine LeO.bind ?_ (fun _ => ?_)
  ·intro y0 y1 y2 y3 y4 y5 y6 y7
   unfold semigroupref04_Compare.j1
   repeat' first
   | (with_reducible exact ih0 _ _ _ _ _ _)
   | (with_reducible exact ih1 _ _ _ _ _ _ _)
   | (with_reducible exact ih2 _ _ _ _ _ _ _ _)
   | (with_reducible exact LeO.refl _)
   | (with_reducible exact LeO.none _)
   | (with_reducible refine LeO.ite ?_ ?_)
   | (with_reducible refine LeO.bind ?_ (fun _ => ?_))
   | exact ih0 _ _ _ _ _ _
   | exact ih1 _ _ _ _ _ _ _
   | exact ih2 _ _ _ _ _ _ _ _
   | exact LeO.none _
   | refine LeO.ite ?_ ?_
   | refine LeO.bind ?_ (fun _ => ?_)
theorem semigroupref04_Compare.mono : ∀ a0 a1 a2 a3 a4 a5 k, LeO (semigroupref04_Compare.f k a0 a1 a2 a3 a4 a5) (semigroupref04_Compare.f (k + 1) a0 a1 a2 a3 a4 a5) := by
 intro a0 a1 a2 a3 a4 a5 k
 obtain ⟨ih0, ih1, ih2⟩ := semigroupref04_Compare.mono_l k
 exact ih0 a0 a1 a2 a3 a4 a5
def semigroupref04_Compare.T8 : Bool × List (List Nat × List Nat) := (true, [([], []), ([0], [0]), ([], []), ([1, 2], [1, 2]), ([3], [3]), ([], []), ([5], [5]), ([], []), ([6, 7], [6, 7]), ([8], [8]), ([4, 9], [4, 9]), ([10, 10, 0, 1, 2, 3, 4, 5, 6, 7, 8, 9, 10], [10])])
def semigroupref04_Compare.B8 : List Nat := [0, 1, 0, 7, 15, 0, 32, 0, 224, 480, 1023, 2047]
theorem semigroupref04_Compare.tab8 : rtab .any (opsOf Try.f24 8) = semigroupref04_Compare.T8 := by kernel_rfl
theorem semigroupref04_Compare.bits8 : waitsOk semigroupref04_Compare.T8.2 semigroupref04_Compare.B8 = true := by kernel_rfl
set_option maxHeartbeats 8000000 in
set_option maxRecDepth 100000 in
theorem semigroupref04_Compare.calls (k : Nat) : ∀ (a0_0 : Int) (a0_1 : Int) (A0_2 : Option Addr) (c0_2 : Nat) (l0_2 : List (S24)) (a1_0 : Int) (a1_1 : Int) (A1_2 : Option Addr) (c1_2 : Nat) (l1_2 : List (S24)) (r : Int) (w : World) (hr0_2 : Kd.C k24 w A0_2 l0_2.length l0_2) (hc0_2 : l0_2.length ≤ c0_2) (hr1_2 : Kd.C k24 w A1_2 l1_2.length l1_2) (hc1_2 : l1_2.length ≤ c1_2) (h : semigroupref04_Compare.f k a0_0 a0_1 l0_2 a1_0 a1_1 l1_2 = some r),
  Calls Try.prog 24 #[.agg #[.int .i64 a0_0, .int .i64 a0_1, .slice A0_2 l0_2.length c0_2], .agg #[.int .i64 a1_0, .int .i64 a1_1, .slice A1_2 l1_2.length c1_2]] w fun e w' => e = .returned (.int .i64 r) ∧ Below w.heap.size w w' := by
 induction k using Nat.strongRecOn with
 | _ k ih =>
 intro a0_0 a0_1 A0_2 c0_2 l0_2 a1_0 a1_1 A1_2 c1_2 l1_2 r w hr0_2 hc0_2 hr1_2 hc1_2 h
 cases k with
 | zero => exact absurd h (by simp [semigroupref04_Compare.f])
 | succ k =>
 simp only [semigroupref04_Compare.f] at h
 have hu24 := Try.underlying24
 have HR0_2 := Aside0.mk hr0_2
 have HC0_2 := Aside0.mk hc0_2
 clear hr0_2 hc0_2
 have HR1_2 := Aside0.mk hr1_2
 have HC1_2 := Aside0.mk hc1_2
 clear hr1_2 hc1_2
 have HB := Aside0.mk (Below.refl w.heap.size w)
 have H : (if a0_0 = a1_0 then (if a0_1 = a1_1 then (semigroupref04_Compare.l0 k 0 a0_0 a0_1 l0_2 a1_0 a1_1 l1_2) else ((semigroupref04_sign.f (decide (a0_1 < a1_1))).bind fun t322 => (some t322))) else ((semigroupref04_sign.f (decide (a0_0 < a1_0))).bind fun t323 => (some t323))) = some r := h
 clear h
 by_cases c3 : a0_0 = a1_0
 ·rw [if_pos c3] at H
  have c3b0 : (a0_0 == a1_0) = true := beq_iff_eq.mpr c3
  have c3b1 : (a0_0 != a1_0) = false := bne_eq_false_iff_eq.mpr c3
  clear c3
  by_cases c4 : a0_1 = a1_1
  ·rw [if_pos c4] at H
   have c4b0 : (a0_1 == a1_1) = true := beq_iff_eq.mpr c4
   have c4b1 : (a0_1 != a1_1) = false := bne_eq_false_iff_eq.mpr c4
   clear c4
   have H' := Aside0.mk H
   clear H
   go_enter Try.func24, Try.ntmps24
   go_wp2_with (first | ((with_reducible refine gate_dst (N := 2) rfl ?_); (try (refine gate_guard (by rfl) ?_; dsimp only)); refine box_event ?hg (N := 2) ?hd (cs := #[.int .i64 a0_0, .int .i64 a0_1, .slice A0_2 l0_2.length c0_2]) (t := 24) ?hr ?_; (case hd => rfl); (case hg => rfl); (case hr => first | (go_simp; done) | (go_simp; rfl)); intro gb320 hg w5 hbox hb; have n0_ := Aside0.mk (below_step (bB) hb); have n1_ := Aside0.mk (hbox); have n2_ := Aside0.mk ((by rw [hg]; exact (below_size (bB)) : w.heap.size ≤ gb320)); have n3_ := Aside0.mk ((by rw [hg]; exact (below_size (bB)) : w.heap.size ≤ gb320)); clear HB; have HB := n0_; have BK320 := n1_; have GW320 := n2_; have GE320 := n3_; clear n0_ n1_ n2_ n3_; clear hb hbox hg) | ((with_reducible refine gate_dst (N := 3) rfl ?_); (try (refine gate_guard (by rfl) ?_; dsimp only)); refine box_event ?hg (N := 3) ?hd (cs := #[.int .i64 a1_0, .int .i64 a1_1, .slice A1_2 l1_2.length c1_2]) (t := 24) ?hr ?_; (case hd => rfl); (case hg => rfl); (case hr => first | (go_simp; done) | (go_simp; rfl)); intro gb321 hg w6 hbox hb; have n0_ := Aside0.mk (blk_below (g := gb320) (o := .cells #[.int .i64 a0_0, .int .i64 a0_1, .slice A0_2 l0_2.length c0_2] 24 (0, 0)) (bK) hb); have n1_ := Aside0.mk (below_step (bB) hb); have n2_ := Aside0.mk (hbox); have n3_ := Aside0.mk ((by rw [hg]; exact (below_size (bB)) : w.heap.size ≤ gb321)); have n4_ := Aside0.mk ((by rw [hg]; exact (below_size (bB)) : w.heap.size ≤ gb321)); have n5_ := Aside0.mk ((by rw [hg]; exact Nat.ne_of_lt (blk_lt (g := gb320) (o := .cells #[.int .i64 a0_0, .int .i64 a0_1, .slice A0_2 l0_2.length c0_2] 24 (0, 0)) (bK)) : gb320 ≠ gb321)); have n6_ := Aside0.mk ((by rw [hg]; exact Nat.ne_of_gt (blk_lt (g := gb320) (o := .cells #[.int .i64 a0_0, .int .i64 a0_1, .slice A0_2 l0_2.length c0_2] 24 (0, 0)) (bK)) : gb321 ≠ gb320)); clear BK320; clear HB; have BK320 := n0_; have HB := n1_; have BK321 := n2_; have GW321 := n3_; have GE321 := n4_; have NB320_321 := n5_; have NB321_320 := n6_; clear n0_ n1_ n2_ n3_ n4_ n5_ n6_; clear hb hbox hg; have hnb7 := NB320_321.out; have hnc7 := NB321_320.out; have hcz8_0 : w6.cell? ⟨gb320, 0, none⟩ = some (.int .i64 a0_0) := (blk_cell BK320.out 0).trans rfl; have hcz8_1 : w6.cell? ⟨gb320, 1, none⟩ = some (.int .i64 a0_1) := (blk_cell BK320.out 1).trans rfl; have hcz8_2 : w6.cell? ⟨gb320, 2, none⟩ = some (.slice A0_2 l0_2.length c0_2) := (blk_cell BK320.out 2).trans rfl; have hfz8_0 := blk_frozen BK320.out 0; have hfz8_1 := blk_frozen BK320.out 1; have hfz8_2 := blk_frozen BK320.out 2; have hcz9_0 : w6.cell? ⟨gb321, 0, none⟩ = some (.int .i64 a1_0) := (blk_cell BK321.out 0).trans rfl; have hcz9_1 : w6.cell? ⟨gb321, 1, none⟩ = some (.int .i64 a1_1) := (blk_cell BK321.out 1).trans rfl; have hcz9_2 : w6.cell? ⟨gb321, 2, none⟩ = some (.slice A1_2 l1_2.length c1_2) := (blk_cell BK321.out 2).trans rfl; have hfz9_0 := blk_frozen BK321.out 0; have hfz9_1 := blk_frozen BK321.out 1; have hfz9_2 := blk_frozen BK321.out 2))
   go_loopg [5] k (fun kq v5 w' => ∃ (x5_1 : Int), v5 = .int .i64 x5_1 ∧ Aside0 (semigroupref04_Compare.l0 kq x5_1 a0_0 a0_1 l0_2 a1_0 a1_1 l1_2 = some r) ∧ Aside0 (kq ≤ k) ∧ Aside0 (w'.heap[gb320]? = some (.cells #[.int .i64 a0_0, .int .i64 a0_1, (.slice A0_2 l0_2.length c0_2)] 24 (0, 0))) ∧ Aside0 (w'.heap[gb321]? = some (.cells #[.int .i64 a1_0, .int .i64 a1_1, (.slice A1_2 l1_2.length c1_2)] 24 (0, 0))) ∧ Aside0 (Below w.heap.size w w'))
   case atStart => exact ⟨(0), (by first | rfl | (simp; done) | (simp [*]; done)), H', ⟨Nat.le_refl _⟩, ⟨bK⟩, ⟨bK⟩, ⟨bB⟩⟩
   case round =>
    clear H'
    try clear c1
    try clear c2
    try clear p2
    try clear c3
    try clear c3b0
    try clear c3b1
    try clear c4
    try clear c4b0
    try clear c4b1
    try clear c7
    try clear hcz8_0
    try clear hcz8_1
    try clear hcz8_2
    try clear hcz9_0
    try clear hcz9_1
    try clear hcz9_2
    try clear hfz8_0
    try clear hfz8_1
    try clear hfz8_2
    try clear hfz9_0
    try clear hfz9_1
    try clear hfz9_2
    obtain ⟨x5_1, rfl, HA, HK1, BK320, BK321, HB⟩ := hrel
    cases gk with
    | zero => exact absurd HA.out (by simp [semigroupref04_Compare.l0])
    | succ k1 =>
     have H := HA.out
     clear HA
     simp only [semigroupref04_Compare.l0] at H
     have HC10 := Aside0.mk H
     clear H
     go_upto_region 6 with (fail)
     go_cut [42] (fun v42 wc => ∃ (kq : Nat) (x42_9 : Bool), v42 = .bool x42_9 ∧ Aside0 (semigroupref04_Compare.j1 kq x5_1 x42_9 a0_0 a0_1 l0_2 a1_0 a1_1 l1_2 = some r) ∧ Aside0 (kq ≤ k1) ∧ Aside0 (wc.heap[gb320]? = some (.cells #[.int .i64 a0_0, .int .i64 a0_1, (.slice A0_2 l0_2.length c0_2)] 24 (0, 0))) ∧ Aside0 (wc.heap[gb321]? = some (.cells #[.int .i64 a1_0, .int .i64 a1_1, (.slice A1_2 l1_2.length c1_2)] 24 (0, 0))) ∧ Aside0 (Below w.heap.size w wc))
     case first =>
      have H := HC10.out
      clear HC10
      by_cases c11 : x5_1 < (l0_2.length : Int)
      ·rw [if_pos c11] at H
       have c11b0 : decide (x5_1 < (l0_2.length : Int)) = true := decide_eq_true c11
       clear c11
       (first | rw [c11b0] | (simp only [i64_w, i32_w]; rw [c11b0]) | skip)
       have H' := Aside0.mk H
       clear H
       have hnb12 := NB320_321.out
       have hnc12 := NB321_320.out
       have hcz13_0 : wr.cell? ⟨gb320, 0, none⟩ = some (.int .i64 a0_0) := (blk_cell BK320.out 0).trans rfl
       have hcz13_1 : wr.cell? ⟨gb320, 1, none⟩ = some (.int .i64 a0_1) := (blk_cell BK320.out 1).trans rfl
       have hcz13_2 : wr.cell? ⟨gb320, 2, none⟩ = some (.slice A0_2 l0_2.length c0_2) := (blk_cell BK320.out 2).trans rfl
       have hfz13_0 := blk_frozen BK320.out 0
       have hfz13_1 := blk_frozen BK320.out 1
       have hfz13_2 := blk_frozen BK320.out 2
       have hcz14_0 : wr.cell? ⟨gb321, 0, none⟩ = some (.int .i64 a1_0) := (blk_cell BK321.out 0).trans rfl
       have hcz14_1 : wr.cell? ⟨gb321, 1, none⟩ = some (.int .i64 a1_1) := (blk_cell BK321.out 1).trans rfl
       have hcz14_2 : wr.cell? ⟨gb321, 2, none⟩ = some (.slice A1_2 l1_2.length c1_2) := (blk_cell BK321.out 2).trans rfl
       have hfz14_0 := blk_frozen BK321.out 0
       have hfz14_1 := blk_frozen BK321.out 1
       have hfz14_2 := blk_frozen BK321.out 2
       go_wp2
       go_meet
       case rel => exact ⟨_, (decide (x5_1 < (l1_2.length : Int))), (by first | rfl | (simp; done) | (simp [*]; done)), H', ⟨by have := HK1.out; first | omega | exact Nat.le_refl _⟩, ⟨bK⟩, ⟨bK⟩, ⟨bB⟩⟩
      ·rw [if_neg c11] at H
       have c11b0 : decide (x5_1 < (l0_2.length : Int)) = false := decide_eq_false c11
       clear c11
       (first | rw [c11b0] | (simp only [i64_w, i32_w]; rw [c11b0]) | skip)
       have H' := Aside0.mk H
       clear H
       have hnb15 := NB320_321.out
       have hnc15 := NB321_320.out
       have hcz16_0 : wr.cell? ⟨gb320, 0, none⟩ = some (.int .i64 a0_0) := (blk_cell BK320.out 0).trans rfl
       have hcz16_1 : wr.cell? ⟨gb320, 1, none⟩ = some (.int .i64 a0_1) := (blk_cell BK320.out 1).trans rfl
       have hcz16_2 : wr.cell? ⟨gb320, 2, none⟩ = some (.slice A0_2 l0_2.length c0_2) := (blk_cell BK320.out 2).trans rfl
       have hfz16_0 := blk_frozen BK320.out 0
       have hfz16_1 := blk_frozen BK320.out 1
       have hfz16_2 := blk_frozen BK320.out 2
       go_wp2
       go_meet
       case rel => exact ⟨_, (false), (by first | rfl | (simp; done) | (simp [*]; done)), H', ⟨by have := HK1.out; first | omega | exact Nat.le_refl _⟩, ⟨bK⟩, ⟨bK⟩, ⟨bB⟩⟩
     case rest =>
      clear HC10
      try clear c1
      try clear c2
      try clear p2
      try clear c3
      try clear c3b0
      try clear c3b1
      try clear c4
      try clear c4b0
      try clear c4b1
      try clear c7
      try clear c11
      try clear c11b0
      try clear c12
      try clear c15
      try clear hcz13_0
      try clear hcz13_1
      try clear hcz13_2
      try clear hcz14_0
      try clear hcz14_1
      try clear hcz14_2
      try clear hcz16_0
      try clear hcz16_1
      try clear hcz16_2
      try clear hcz8_0
      try clear hcz8_1
      try clear hcz8_2
      try clear hcz9_0
      try clear hcz9_1
      try clear hcz9_2
      try clear hfz13_0
      try clear hfz13_1
      try clear hfz13_2
      try clear hfz14_0
      try clear hfz14_1
      try clear hfz14_2
      try clear hfz16_0
      try clear hfz16_1
      try clear hfz16_2
      try clear hfz8_0
      try clear hfz8_1
      try clear hfz8_2
      try clear hfz9_0
      try clear hfz9_1
      try clear hfz9_2
      try clear p2
      obtain ⟨kq, x42_9, rfl, HA, HJ9, BK320, BK321, HB⟩ := hcut
      cases kq with
      | zero => exact absurd HA.out (by simp [semigroupref04_Compare.j1])
      | succ kj9 =>
       have H := HA.out
       clear HA
       simp only [semigroupref04_Compare.j1] at H
       by_cases c17 : x42_9 = true
       ·subst c17
        have H1 : (if 0 ≤ x5_1 then (if x5_1 < (l0_2.length : Int) then (if x5_1 < (l1_2.length : Int) then ((semigroupref04_Compare.f kj9 ((rd_T24 l0_2 x5_1).f0) ((rd_T24 l0_2 x5_1).f1) ((rd_T24 l0_2 x5_1).f2) ((rd_T24 l1_2 x5_1).f0) ((rd_T24 l1_2 x5_1).f1) ((rd_T24 l1_2 x5_1).f2)).bind fun t326 => (if t326 = 0 then (semigroupref04_Compare.l0 kj9 (wrap64 (x5_1 + 1)) a0_0 a0_1 l0_2 a1_0 a1_1 l1_2) else (some t326))) else (none)) else (none)) else (none)) = some r := by rw [if_pos rfl] at H; exact H
        clear H
        have H := H1
        clear H1
        by_cases c18 : 0 ≤ x5_1
        ·rw [if_pos c18] at H
         have c18b0 : decide (0 ≤ x5_1) = true := decide_eq_true c18
         clear c18
         by_cases c19 : x5_1 < (l0_2.length : Int)
         ·rw [if_pos c19] at H
          have c19b0 : decide (x5_1 < (l0_2.length : Int)) = true := decide_eq_true c19
          clear c19
          by_cases c20 : x5_1 < (l1_2.length : Int)
          ·rw [if_pos c20] at H
           have c20b0 : decide (x5_1 < (l1_2.length : Int)) = true := decide_eq_true c20
           clear c20
           replace H := Option.bind_eq_some_iff.mp H
           obtain ⟨t326, A210, H⟩ := H
           replace H : (if t326 = 0 then (semigroupref04_Compare.l0 kj9 (wrap64 (x5_1 + 1)) a0_0 a0_1 l0_2 a1_0 a1_1 l1_2) else (some t326)) = some r := H
           have A21 := Aside0.mk A210
           clear A210
           by_cases c22 : t326 = 0
           ·rw [if_pos c22] at H
            have c22b0 : (t326 == 0) = true := beq_iff_eq.mpr c22
            have c22b1 : (t326 != 0) = false := bne_eq_false_iff_eq.mpr c22
            clear c22
            have H' := Aside0.mk H
            clear H
            try go_wp2
            have n0_ := Aside0.mk (blk_drew BK320.out)
            have n1_ := Aside0.mk (blk_drew BK321.out)
            have n2_ := Aside0.mk (below_drew1 HB.out)
            clear BK320
            clear BK321
            clear HB
            have BK320 := n0_
            have BK321 := n1_
            have HB := n2_
            clear n0_ n1_ n2_
            have p324 : 0 ≤ (x5_1 : Int) := of_decide_eq_true (by first | (with_reducible assumption) | assumption)
            have q324 : x5_1 < (l0_2.length : Int) := of_decide_eq_true (by first | (with_reducible assumption) | assumption)
            obtain ⟨ad324, A324_2, c324_2, e324, hx324_0, hx324_1, hx324_2, hl324_2, hi324_2⟩ := at_T24 HR0_2.out x5_1 p324 q324
            have hw324_2 := hx324_2
            have hw324_1 := hx324_1
            have hw324_0 := hx324_0
            cases e324
            replace hx324_0 := (HB.out.cell (World.block_lt_of_cell? w _ hx324_0)).trans hx324_0
            replace hx324_1 := (HB.out.cell (World.block_lt_of_cell? w _ hx324_1)).trans hx324_1
            replace hx324_2 := (HB.out.cell (World.block_lt_of_cell? w _ hx324_2)).trans hx324_2
            have HR324_2 := Aside0.mk hi324_2
            have HC324_2 := Aside0.mk hl324_2
            clear hi324_2 hl324_2
            replace p324 := eq_true p324
            replace q324 := eq_true q324
            have p325 : 0 ≤ (x5_1 : Int) := of_decide_eq_true (by first | (with_reducible assumption) | assumption)
            have q325 : x5_1 < (l1_2.length : Int) := of_decide_eq_true (by first | (with_reducible assumption) | assumption)
            obtain ⟨ad325, A325_2, c325_2, e325, hx325_0, hx325_1, hx325_2, hl325_2, hi325_2⟩ := at_T24 HR1_2.out x5_1 p325 q325
            have hw325_2 := hx325_2
            have hw325_1 := hx325_1
            have hw325_0 := hx325_0
            cases e325
            replace hx325_0 := (HB.out.cell (World.block_lt_of_cell? w _ hx325_0)).trans hx325_0
            replace hx325_1 := (HB.out.cell (World.block_lt_of_cell? w _ hx325_1)).trans hx325_1
            replace hx325_2 := (HB.out.cell (World.block_lt_of_cell? w _ hx325_2)).trans hx325_2
            have HR325_2 := Aside0.mk hi325_2
            have HC325_2 := Aside0.mk hl325_2
            clear hi325_2 hl325_2
            replace p325 := eq_true p325
            replace q325 := eq_true q325
            refine start_ (n := 12) (S := fun w' => w'.cell? ⟨gb320, 0, none⟩ = some (.int .i64 a0_0) ∧ w'.cell? ⟨gb320, 1, none⟩ = some (.int .i64 a0_1) ∧ w'.cell? ⟨gb320, 2, none⟩ = some (.slice (some ad324) l0_2.length c0_2) ∧ w'.cell? ⟨gb321, 0, none⟩ = some (.int .i64 a1_0) ∧ w'.cell? ⟨gb321, 1, none⟩ = some (.int .i64 a1_1) ∧ w'.cell? ⟨gb321, 2, none⟩ = some (.slice (some ad325) l1_2.length c1_2) ∧ w'.cell? (ad324.add ((x5_1).toNat * 3)) = some (.int .i64 ((rd_T24 l0_2 x5_1).f0)) ∧ w'.cell? ⟨(ad324.add ((x5_1).toNat * 3)).block, (ad324.add ((x5_1).toNat * 3)).off + 1, none⟩ = some (.int .i64 ((rd_T24 l0_2 x5_1).f1)) ∧ w'.cell? ⟨(ad324.add ((x5_1).toNat * 3)).block, (ad324.add ((x5_1).toNat * 3)).off + 2, none⟩ = some (.slice A324_2 ((rd_T24 l0_2 x5_1).f2).length c324_2) ∧ w'.cell? (ad325.add ((x5_1).toNat * 3)) = some (.int .i64 ((rd_T24 l1_2 x5_1).f0)) ∧ w'.cell? ⟨(ad325.add ((x5_1).toNat * 3)).block, (ad325.add ((x5_1).toNat * 3)).off + 1, none⟩ = some (.int .i64 ((rd_T24 l1_2 x5_1).f1)) ∧ w'.cell? ⟨(ad325.add ((x5_1).toNat * 3)).block, (ad325.add ((x5_1).toNat * 3)).off + 2, none⟩ = some (.slice A325_2 ((rd_T24 l1_2 x5_1).f2).length c325_2)) (ds := []) #[false, false, false, false, false, false, false, false, false, false, false, false] (by kernel_rfl) rfl rfl ⟨(blk_cell BK320.out 0).trans rfl, (blk_cell BK320.out 1).trans rfl, (blk_cell BK320.out 2).trans rfl, (blk_cell BK321.out 0).trans rfl, (blk_cell BK321.out 1).trans rfl, (blk_cell BK321.out 2).trans rfl, ((HB.out.cell (World.block_lt_of_cell? w _ hw324_0)).trans hw324_0), ((HB.out.cell (World.block_lt_of_cell? w _ hw324_1)).trans hw324_1), ((HB.out.cell (World.block_lt_of_cell? w _ hw324_2)).trans hw324_2), ((HB.out.cell (World.block_lt_of_cell? w _ hw325_0)).trans hw325_0), ((HB.out.cell (World.block_lt_of_cell? w _ hw325_1)).trans hw325_1), ((HB.out.cell (World.block_lt_of_cell? w _ hw325_2)).trans hw325_2)⟩ (fun hHeld => ?_); refine with_tabW semigroupref04_Compare.tab8 semigroupref04_Compare.bits8 (fun HT_ HW_ => ?_)
            generalize wc.drew = w23 at BK320 BK321 HB HR324_2 HR325_2 hx324_0 hx324_1 hx324_2 hx325_0 hx325_1 hx325_2 hHeld ⊢
            refine pure_ (i := 0) (N := some 45) (v := ?_) (a' := ?_) #[true, false, false, false, false, false, false, false, false, false, false, false] rfl rfl (any_of HT_.out (by kernel_rfl)) (fun _ _ _ h => h) (Or.inl ⟨by rfl, ?_⟩) ?_ ?_
            rotate_left
            ·intro w'
             go_simp
             with_reducible rfl
            rotate_left
            ·simp only [Act.put, List.setIfInBounds_toArray, List.set_cons_zero, List.set_cons_succ, i64_w, i32_w]
             rfl
            refine pure_ (i := 2) (N := some 47) (v := ?_) (a' := ?_) #[true, false, true, false, false, false, false, false, false, false, false, false] rfl rfl (any_of HT_.out (by kernel_rfl)) (fun _ _ _ h => h) (Or.inl ⟨by rfl, ?_⟩) ?_ ?_
            rotate_left
            ·intro w'
             go_simp
             with_reducible rfl
            rotate_left
            ·simp only [Act.put, List.setIfInBounds_toArray, List.set_cons_zero, List.set_cons_succ, i64_w, i32_w]
             rfl
            refine pure_ (i := 5) (N := some 50) (v := ?_) (a' := ?_) #[true, false, true, false, false, true, false, false, false, false, false, false] rfl rfl (any_of HT_.out (by kernel_rfl)) (fun _ _ _ h => h) (Or.inl ⟨by rfl, ?_⟩) ?_ ?_
            rotate_left
            ·intro w'
             go_simp
             with_reducible rfl
            rotate_left
            ·simp only [Act.put, List.setIfInBounds_toArray, List.set_cons_zero, List.set_cons_succ, i64_w, i32_w]
             rfl
            refine pure_ (i := 7) (N := some 52) (v := ?_) (a' := ?_) #[true, false, true, false, false, true, false, true, false, false, false, false] rfl rfl (any_of HT_.out (by kernel_rfl)) (fun _ _ _ h => h) (Or.inl ⟨by rfl, ?_⟩) ?_ ?_
            rotate_left
            ·intro w'
             go_simp
             with_reducible rfl
            rotate_left
            ·simp only [Act.put, List.setIfInBounds_toArray, List.set_cons_zero, List.set_cons_succ, i64_w, i32_w]
             rfl
            refine take_ (i := 1) (N := some 46) (v := ?_) (a' := ?_) #[true, true, true, false, false, true, false, true, false, false, false, false] rfl rfl (take_ofW HT_.out HW_.out (by kernel_rfl)) (fun _ _ _ h => h) (Or.inl ⟨by rfl, ?_⟩) hHeld ?_ ?_
            rotate_left
            ·rintro w' ⟨s0, s1, s2, s3, s4, s5, s6, s7, s8, s9, s10, s11⟩
             go_simp
             with_reducible rfl
            rotate_left
            ·simp only [Act.put, List.setIfInBounds_toArray, List.set_cons_zero, List.set_cons_succ, i64_w, i32_w]
             rfl
            refine pure_ (i := 3) (N := some 48) (v := ?_) (a' := ?_) #[true, true, true, true, false, true, false, true, false, false, false, false] rfl rfl (any_of HT_.out (by kernel_rfl)) (fun _ _ _ h => h) (Or.inl ⟨by rfl, ?_⟩) ?_ ?_
            rotate_left
            ·intro w'
             go_simp
             with_reducible rfl
            rotate_left
            ·simp only [Act.put, List.setIfInBounds_toArray, List.set_cons_zero, List.set_cons_succ, i64_w, i32_w]
             rfl
            refine take_ (i := 4) (N := some 49) (v := ?_) (a' := ?_) #[true, true, true, true, true, true, false, true, false, false, false, false] rfl rfl (take_ofW HT_.out HW_.out (by kernel_rfl)) (fun _ _ _ h => h) (Or.inl ⟨by rfl, ?_⟩) hHeld ?_ ?_
            rotate_left
            ·rintro w' ⟨s0, s1, s2, s3, s4, s5, s6, s7, s8, s9, s10, s11⟩
             go_simp
             with_reducible rfl
            rotate_left
            ·simp only [Act.put, List.setIfInBounds_toArray, List.set_cons_zero, List.set_cons_succ, i64_w, i32_w]
             rfl
            refine take_ (i := 6) (N := some 51) (v := ?_) (a' := ?_) #[true, true, true, true, true, true, true, true, false, false, false, false] rfl rfl (take_ofW HT_.out HW_.out (by kernel_rfl)) (fun _ _ _ h => h) (Or.inl ⟨by rfl, ?_⟩) hHeld ?_ ?_
            rotate_left
            ·rintro w' ⟨s0, s1, s2, s3, s4, s5, s6, s7, s8, s9, s10, s11⟩
             go_simp
             with_reducible rfl
            rotate_left
            ·simp only [Act.put, List.setIfInBounds_toArray, List.set_cons_zero, List.set_cons_succ, i64_w, i32_w]
             rfl
            refine pure_ (i := 8) (N := some 53) (v := ?_) (a' := ?_) #[true, true, true, true, true, true, true, true, true, false, false, false] rfl rfl (any_of HT_.out (by kernel_rfl)) (fun _ _ _ h => h) (Or.inl ⟨by rfl, ?_⟩) ?_ ?_
            rotate_left
            ·intro w'
             go_simp
             with_reducible rfl
            rotate_left
            ·simp only [Act.put, List.setIfInBounds_toArray, List.set_cons_zero, List.set_cons_succ, i64_w, i32_w]
             rfl
            refine take_ (i := 9) (N := some 54) (v := ?_) (a' := ?_) #[true, true, true, true, true, true, true, true, true, true, false, false] rfl rfl (take_ofW HT_.out HW_.out (by kernel_rfl)) (fun _ _ _ h => h) (Or.inl ⟨by rfl, ?_⟩) hHeld ?_ ?_
            rotate_left
            ·rintro w' ⟨s0, s1, s2, s3, s4, s5, s6, s7, s8, s9, s10, s11⟩
             go_simp
             with_reducible rfl
            rotate_left
            ·simp only [Act.put, List.setIfInBounds_toArray, List.set_cons_zero, List.set_cons_succ, i64_w, i32_w]
             rfl
            refine one_ (i := 10) (N := some 55) #[true, true, true, true, true, true, true, true, true, true, true, false] rfl rfl (one_of HT_.out (by kernel_rfl)) (by decide) (fun K hK => ?_)
            refine goes_ Try.func24 (by kernel_rfl) rfl #[.agg #[.int .i64 ((rd_T24 l0_2 x5_1).f0), .int .i64 ((rd_T24 l0_2 x5_1).f1), .slice A324_2 ((rd_T24 l0_2 x5_1).f2).length c324_2], .agg #[.int .i64 ((rd_T24 l1_2 x5_1).f0), .int .i64 ((rd_T24 l1_2 x5_1).f1), .slice A325_2 ((rd_T24 l1_2 x5_1).f2).length c325_2]] (by rfl) rfl rfl (by (try simp only [List.map_toArray, List.map_cons, List.map_nil]); first | done | rfl | (simp only [List.length_drop, List.length_take]; rfl)) ?_
            with_reducible refine (ih kj9 (by have := HK1.out; have := HJ9.out; omega) ((rd_T24 l0_2 x5_1).f0) ((rd_T24 l0_2 x5_1).f1) _ _ ((rd_T24 l0_2 x5_1).f2) ((rd_T24 l1_2 x5_1).f0) ((rd_T24 l1_2 x5_1).f1) _ _ ((rd_T24 l1_2 x5_1).f2) t326 _ ?side1 ?side2 ?side3 ?side4 A21.out).mono ?_
            (case side1 => repeat (first | exact (Kd.C_below HR324_2.out HB.out) | (with_reducible refine Kd.C_alloc ?_ _) | (with_reducible refine Kd.C_drewN ?_ _) | (with_reducible refine Kd.C_drew ?_)))
            (case side2 => exact HC324_2.out)
            (case side3 => repeat (first | exact (Kd.C_below HR325_2.out HB.out) | (with_reducible refine Kd.C_alloc ?_ _) | (with_reducible refine Kd.C_drewN ?_ _) | (with_reducible refine Kd.C_drew ?_)))
            (case side4 => exact HC325_2.out)
            rintro e w24 ⟨rfl, hb⟩
            refine ⟨_, rfl, ?_⟩
            have n0_ := Aside0.mk (blk_below (g := gb320) (o := .cells #[.int .i64 a0_0, .int .i64 a0_1, .slice (some ad324) l0_2.length c0_2] 24 (0, 0)) (bK) hb)
            have n1_ := Aside0.mk (blk_below (g := gb321) (o := .cells #[.int .i64 a1_0, .int .i64 a1_1, .slice (some ad325) l1_2.length c1_2] 24 (0, 0)) (bK) hb)
            have n2_ := Aside0.mk (below_step (bB) hb)
            clear BK320
            clear BK321
            clear HB
            have BK320 := n0_
            have BK321 := n1_
            have HB := n2_
            clear n0_ n1_ n2_
            (try clear hb)
            (try clear hb2)
            (try clear hk)
            (try clear hi)
            refine hK.out _ _ ⟨(blk_cell BK320.out 0).trans rfl, (blk_cell BK320.out 1).trans rfl, (blk_cell BK320.out 2).trans rfl, (blk_cell BK321.out 0).trans rfl, (blk_cell BK321.out 1).trans rfl, (blk_cell BK321.out 2).trans rfl, ((HB.out.cell (World.block_lt_of_cell? w _ hw324_0)).trans hw324_0), ((HB.out.cell (World.block_lt_of_cell? w _ hw324_1)).trans hw324_1), ((HB.out.cell (World.block_lt_of_cell? w _ hw324_2)).trans hw324_2), ((HB.out.cell (World.block_lt_of_cell? w _ hw325_0)).trans hw325_0), ((HB.out.cell (World.block_lt_of_cell? w _ hw325_1)).trans hw325_1), ((HB.out.cell (World.block_lt_of_cell? w _ hw325_2)).trans hw325_2)⟩ (fun hHeld => ?_)
            clear hK K
            refine norm_ (a' := ?_) ?_ ?_
            rotate_left
            ·show Act.put _ (some 55) _ = _
             simp only [Act.put, List.setIfInBounds_toArray, List.set_cons_zero, List.set_cons_succ, i64_w, i32_w]
             rfl
            refine pure_ (i := 11) (N := some 6) (v := ?_) (a' := ?_) #[true, true, true, true, true, true, true, true, true, true, true, true] rfl rfl (any_of HT_.out (by kernel_rfl)) (fun _ _ _ h => h) (Or.inl ⟨by rfl, ?_⟩) ?_ ?_
            rotate_left
            ·intro w'
             go_simp
             with_reducible rfl
            rotate_left
            ·simp only [Act.put, List.setIfInBounds_toArray, List.set_cons_zero, List.set_cons_succ, i64_w, i32_w]
             rfl
            refine done_ (done_of HT_.out (by kernel_rfl)) ?_
            try go_wp2
            (first | go_roundg kj9 | ((simp only [add_plain] at *); go_roundg kj9))
            case measure => have := HK1.out; have := HJ9.out; omega
            case rel => exact ⟨(wrap64 (x5_1 + 1)), (by first | rfl | (simp; done) | (simp [*]; done)), H', ⟨by have := HK1.out; have := HJ9.out; omega⟩, ⟨bK⟩, ⟨bK⟩, ⟨bB⟩⟩
           ·rw [if_neg c22] at H
            have c22b0 : (t326 == 0) = false := beq_eq_false_iff_ne.mpr c22
            have c22b1 : (t326 != 0) = true := bne_iff_ne.mpr c22
            obtain rfl := Option.some.inj H
            try go_wp2
            have n0_ := Aside0.mk (blk_drew BK320.out)
            have n1_ := Aside0.mk (blk_drew BK321.out)
            have n2_ := Aside0.mk (below_drew1 HB.out)
            clear BK320
            clear BK321
            clear HB
            have BK320 := n0_
            have BK321 := n1_
            have HB := n2_
            clear n0_ n1_ n2_
            have p324 : 0 ≤ (x5_1 : Int) := of_decide_eq_true (by first | (with_reducible assumption) | assumption)
            have q324 : x5_1 < (l0_2.length : Int) := of_decide_eq_true (by first | (with_reducible assumption) | assumption)
            obtain ⟨ad324, A324_2, c324_2, e324, hx324_0, hx324_1, hx324_2, hl324_2, hi324_2⟩ := at_T24 HR0_2.out x5_1 p324 q324
            have hw324_2 := hx324_2
            have hw324_1 := hx324_1
            have hw324_0 := hx324_0
            cases e324
            replace hx324_0 := (HB.out.cell (World.block_lt_of_cell? w _ hx324_0)).trans hx324_0
            replace hx324_1 := (HB.out.cell (World.block_lt_of_cell? w _ hx324_1)).trans hx324_1
            replace hx324_2 := (HB.out.cell (World.block_lt_of_cell? w _ hx324_2)).trans hx324_2
            have HR324_2 := Aside0.mk hi324_2
            have HC324_2 := Aside0.mk hl324_2
            clear hi324_2 hl324_2
            replace p324 := eq_true p324
            replace q324 := eq_true q324
            have p325 : 0 ≤ (x5_1 : Int) := of_decide_eq_true (by first | (with_reducible assumption) | assumption)
            have q325 : x5_1 < (l1_2.length : Int) := of_decide_eq_true (by first | (with_reducible assumption) | assumption)
            obtain ⟨ad325, A325_2, c325_2, e325, hx325_0, hx325_1, hx325_2, hl325_2, hi325_2⟩ := at_T24 HR1_2.out x5_1 p325 q325
            have hw325_2 := hx325_2
            have hw325_1 := hx325_1
            have hw325_0 := hx325_0
            cases e325
            replace hx325_0 := (HB.out.cell (World.block_lt_of_cell? w _ hx325_0)).trans hx325_0
            replace hx325_1 := (HB.out.cell (World.block_lt_of_cell? w _ hx325_1)).trans hx325_1
            replace hx325_2 := (HB.out.cell (World.block_lt_of_cell? w _ hx325_2)).trans hx325_2
            have HR325_2 := Aside0.mk hi325_2
            have HC325_2 := Aside0.mk hl325_2
            clear hi325_2 hl325_2
            replace p325 := eq_true p325
            replace q325 := eq_true q325
            refine start_ (n := 12) (S := fun w' => w'.cell? ⟨gb320, 0, none⟩ = some (.int .i64 a0_0) ∧ w'.cell? ⟨gb320, 1, none⟩ = some (.int .i64 a0_1) ∧ w'.cell? ⟨gb320, 2, none⟩ = some (.slice (some ad324) l0_2.length c0_2) ∧ w'.cell? ⟨gb321, 0, none⟩ = some (.int .i64 a1_0) ∧ w'.cell? ⟨gb321, 1, none⟩ = some (.int .i64 a1_1) ∧ w'.cell? ⟨gb321, 2, none⟩ = some (.slice (some ad325) l1_2.length c1_2) ∧ w'.cell? (ad324.add ((x5_1).toNat * 3)) = some (.int .i64 ((rd_T24 l0_2 x5_1).f0)) ∧ w'.cell? ⟨(ad324.add ((x5_1).toNat * 3)).block, (ad324.add ((x5_1).toNat * 3)).off + 1, none⟩ = some (.int .i64 ((rd_T24 l0_2 x5_1).f1)) ∧ w'.cell? ⟨(ad324.add ((x5_1).toNat * 3)).block, (ad324.add ((x5_1).toNat * 3)).off + 2, none⟩ = some (.slice A324_2 ((rd_T24 l0_2 x5_1).f2).length c324_2) ∧ w'.cell? (ad325.add ((x5_1).toNat * 3)) = some (.int .i64 ((rd_T24 l1_2 x5_1).f0)) ∧ w'.cell? ⟨(ad325.add ((x5_1).toNat * 3)).block, (ad325.add ((x5_1).toNat * 3)).off + 1, none⟩ = some (.int .i64 ((rd_T24 l1_2 x5_1).f1)) ∧ w'.cell? ⟨(ad325.add ((x5_1).toNat * 3)).block, (ad325.add ((x5_1).toNat * 3)).off + 2, none⟩ = some (.slice A325_2 ((rd_T24 l1_2 x5_1).f2).length c325_2)) (ds := []) #[false, false, false, false, false, false, false, false, false, false, false, false] (by kernel_rfl) rfl rfl ⟨(blk_cell BK320.out 0).trans rfl, (blk_cell BK320.out 1).trans rfl, (blk_cell BK320.out 2).trans rfl, (blk_cell BK321.out 0).trans rfl, (blk_cell BK321.out 1).trans rfl, (blk_cell BK321.out 2).trans rfl, ((HB.out.cell (World.block_lt_of_cell? w _ hw324_0)).trans hw324_0), ((HB.out.cell (World.block_lt_of_cell? w _ hw324_1)).trans hw324_1), ((HB.out.cell (World.block_lt_of_cell? w _ hw324_2)).trans hw324_2), ((HB.out.cell (World.block_lt_of_cell? w _ hw325_0)).trans hw325_0), ((HB.out.cell (World.block_lt_of_cell? w _ hw325_1)).trans hw325_1), ((HB.out.cell (World.block_lt_of_cell? w _ hw325_2)).trans hw325_2)⟩ (fun hHeld => ?_); refine with_tabW semigroupref04_Compare.tab8 semigroupref04_Compare.bits8 (fun HT_ HW_ => ?_)
            generalize wc.drew = w25 at BK320 BK321 HB HR324_2 HR325_2 hx324_0 hx324_1 hx324_2 hx325_0 hx325_1 hx325_2 hHeld ⊢
            refine pure_ (i := 0) (N := some 45) (v := ?_) (a' := ?_) #[true, false, false, false, false, false, false, false, false, false, false, false] rfl rfl (any_of HT_.out (by kernel_rfl)) (fun _ _ _ h => h) (Or.inl ⟨by rfl, ?_⟩) ?_ ?_
            rotate_left
            ·intro w'
             go_simp
             with_reducible rfl
            rotate_left
            ·simp only [Act.put, List.setIfInBounds_toArray, List.set_cons_zero, List.set_cons_succ, i64_w, i32_w]
             rfl
            refine pure_ (i := 2) (N := some 47) (v := ?_) (a' := ?_) #[true, false, true, false, false, false, false, false, false, false, false, false] rfl rfl (any_of HT_.out (by kernel_rfl)) (fun _ _ _ h => h) (Or.inl ⟨by rfl, ?_⟩) ?_ ?_
            rotate_left
            ·intro w'
             go_simp
             with_reducible rfl
            rotate_left
            ·simp only [Act.put, List.setIfInBounds_toArray, List.set_cons_zero, List.set_cons_succ, i64_w, i32_w]
             rfl
            refine pure_ (i := 5) (N := some 50) (v := ?_) (a' := ?_) #[true, false, true, false, false, true, false, false, false, false, false, false] rfl rfl (any_of HT_.out (by kernel_rfl)) (fun _ _ _ h => h) (Or.inl ⟨by rfl, ?_⟩) ?_ ?_
            rotate_left
            ·intro w'
             go_simp
             with_reducible rfl
            rotate_left
            ·simp only [Act.put, List.setIfInBounds_toArray, List.set_cons_zero, List.set_cons_succ, i64_w, i32_w]
             rfl
            refine pure_ (i := 7) (N := some 52) (v := ?_) (a' := ?_) #[true, false, true, false, false, true, false, true, false, false, false, false] rfl rfl (any_of HT_.out (by kernel_rfl)) (fun _ _ _ h => h) (Or.inl ⟨by rfl, ?_⟩) ?_ ?_
            rotate_left
            ·intro w'
             go_simp
             with_reducible rfl
            rotate_left
            ·simp only [Act.put, List.setIfInBounds_toArray, List.set_cons_zero, List.set_cons_succ, i64_w, i32_w]
             rfl
            refine take_ (i := 1) (N := some 46) (v := ?_) (a' := ?_) #[true, true, true, false, false, true, false, true, false, false, false, false] rfl rfl (take_ofW HT_.out HW_.out (by kernel_rfl)) (fun _ _ _ h => h) (Or.inl ⟨by rfl, ?_⟩) hHeld ?_ ?_
            rotate_left
            ·rintro w' ⟨s0, s1, s2, s3, s4, s5, s6, s7, s8, s9, s10, s11⟩
             go_simp
             with_reducible rfl
            rotate_left
            ·simp only [Act.put, List.setIfInBounds_toArray, List.set_cons_zero, List.set_cons_succ, i64_w, i32_w]
             rfl
            refine pure_ (i := 3) (N := some 48) (v := ?_) (a' := ?_) #[true, true, true, true, false, true, false, true, false, false, false, false] rfl rfl (any_of HT_.out (by kernel_rfl)) (fun _ _ _ h => h) (Or.inl ⟨by rfl, ?_⟩) ?_ ?_
            rotate_left
            ·intro w'
             go_simp
             with_reducible rfl
            rotate_left
            ·simp only [Act.put, List.setIfInBounds_toArray, List.set_cons_zero, List.set_cons_succ, i64_w, i32_w]
             rfl
            refine take_ (i := 4) (N := some 49) (v := ?_) (a' := ?_) #[true, true, true, true, true, true, false, true, false, false, false, false] rfl rfl (take_ofW HT_.out HW_.out (by kernel_rfl)) (fun _ _ _ h => h) (Or.inl ⟨by rfl, ?_⟩) hHeld ?_ ?_
            rotate_left
            ·rintro w' ⟨s0, s1, s2, s3, s4, s5, s6, s7, s8, s9, s10, s11⟩
             go_simp
             with_reducible rfl
            rotate_left
            ·simp only [Act.put, List.setIfInBounds_toArray, List.set_cons_zero, List.set_cons_succ, i64_w, i32_w]
             rfl
            refine take_ (i := 6) (N := some 51) (v := ?_) (a' := ?_) #[true, true, true, true, true, true, true, true, false, false, false, false] rfl rfl (take_ofW HT_.out HW_.out (by kernel_rfl)) (fun _ _ _ h => h) (Or.inl ⟨by rfl, ?_⟩) hHeld ?_ ?_
            rotate_left
            ·rintro w' ⟨s0, s1, s2, s3, s4, s5, s6, s7, s8, s9, s10, s11⟩
             go_simp
             with_reducible rfl
            rotate_left
            ·simp only [Act.put, List.setIfInBounds_toArray, List.set_cons_zero, List.set_cons_succ, i64_w, i32_w]
             rfl
            refine pure_ (i := 8) (N := some 53) (v := ?_) (a' := ?_) #[true, true, true, true, true, true, true, true, true, false, false, false] rfl rfl (any_of HT_.out (by kernel_rfl)) (fun _ _ _ h => h) (Or.inl ⟨by rfl, ?_⟩) ?_ ?_
            rotate_left
            ·intro w'
             go_simp
             with_reducible rfl
            rotate_left
            ·simp only [Act.put, List.setIfInBounds_toArray, List.set_cons_zero, List.set_cons_succ, i64_w, i32_w]
             rfl
            refine take_ (i := 9) (N := some 54) (v := ?_) (a' := ?_) #[true, true, true, true, true, true, true, true, true, true, false, false] rfl rfl (take_ofW HT_.out HW_.out (by kernel_rfl)) (fun _ _ _ h => h) (Or.inl ⟨by rfl, ?_⟩) hHeld ?_ ?_
            rotate_left
            ·rintro w' ⟨s0, s1, s2, s3, s4, s5, s6, s7, s8, s9, s10, s11⟩
             go_simp
             with_reducible rfl
            rotate_left
            ·simp only [Act.put, List.setIfInBounds_toArray, List.set_cons_zero, List.set_cons_succ, i64_w, i32_w]
             rfl
            refine one_ (i := 10) (N := some 55) #[true, true, true, true, true, true, true, true, true, true, true, false] rfl rfl (one_of HT_.out (by kernel_rfl)) (by decide) (fun K hK => ?_)
            refine goes_ Try.func24 (by kernel_rfl) rfl #[.agg #[.int .i64 ((rd_T24 l0_2 x5_1).f0), .int .i64 ((rd_T24 l0_2 x5_1).f1), .slice A324_2 ((rd_T24 l0_2 x5_1).f2).length c324_2], .agg #[.int .i64 ((rd_T24 l1_2 x5_1).f0), .int .i64 ((rd_T24 l1_2 x5_1).f1), .slice A325_2 ((rd_T24 l1_2 x5_1).f2).length c325_2]] (by rfl) rfl rfl (by (try simp only [List.map_toArray, List.map_cons, List.map_nil]); first | done | rfl | (simp only [List.length_drop, List.length_take]; rfl)) ?_
            with_reducible refine (ih kj9 (by have := HK1.out; have := HJ9.out; omega) ((rd_T24 l0_2 x5_1).f0) ((rd_T24 l0_2 x5_1).f1) _ _ ((rd_T24 l0_2 x5_1).f2) ((rd_T24 l1_2 x5_1).f0) ((rd_T24 l1_2 x5_1).f1) _ _ ((rd_T24 l1_2 x5_1).f2) t326 _ ?side1 ?side2 ?side3 ?side4 A21.out).mono ?_
            (case side1 => repeat (first | exact (Kd.C_below HR324_2.out HB.out) | (with_reducible refine Kd.C_alloc ?_ _) | (with_reducible refine Kd.C_drewN ?_ _) | (with_reducible refine Kd.C_drew ?_)))
            (case side2 => exact HC324_2.out)
            (case side3 => repeat (first | exact (Kd.C_below HR325_2.out HB.out) | (with_reducible refine Kd.C_alloc ?_ _) | (with_reducible refine Kd.C_drewN ?_ _) | (with_reducible refine Kd.C_drew ?_)))
            (case side4 => exact HC325_2.out)
            rintro e w26 ⟨rfl, hb⟩
            refine ⟨_, rfl, ?_⟩
            have n0_ := Aside0.mk (blk_below (g := gb320) (o := .cells #[.int .i64 a0_0, .int .i64 a0_1, .slice (some ad324) l0_2.length c0_2] 24 (0, 0)) (bK) hb)
            have n1_ := Aside0.mk (blk_below (g := gb321) (o := .cells #[.int .i64 a1_0, .int .i64 a1_1, .slice (some ad325) l1_2.length c1_2] 24 (0, 0)) (bK) hb)
            have n2_ := Aside0.mk (below_step (bB) hb)
            clear BK320
            clear BK321
            clear HB
            have BK320 := n0_
            have BK321 := n1_
            have HB := n2_
            clear n0_ n1_ n2_
            (try clear hb)
            (try clear hb2)
            (try clear hk)
            (try clear hi)
            refine hK.out _ _ ⟨(blk_cell BK320.out 0).trans rfl, (blk_cell BK320.out 1).trans rfl, (blk_cell BK320.out 2).trans rfl, (blk_cell BK321.out 0).trans rfl, (blk_cell BK321.out 1).trans rfl, (blk_cell BK321.out 2).trans rfl, ((HB.out.cell (World.block_lt_of_cell? w _ hw324_0)).trans hw324_0), ((HB.out.cell (World.block_lt_of_cell? w _ hw324_1)).trans hw324_1), ((HB.out.cell (World.block_lt_of_cell? w _ hw324_2)).trans hw324_2), ((HB.out.cell (World.block_lt_of_cell? w _ hw325_0)).trans hw325_0), ((HB.out.cell (World.block_lt_of_cell? w _ hw325_1)).trans hw325_1), ((HB.out.cell (World.block_lt_of_cell? w _ hw325_2)).trans hw325_2)⟩ (fun hHeld => ?_)
            clear hK K
            refine norm_ (a' := ?_) ?_ ?_
            rotate_left
            ·show Act.put _ (some 55) _ = _
             simp only [Act.put, List.setIfInBounds_toArray, List.set_cons_zero, List.set_cons_succ, i64_w, i32_w]
             rfl
            refine pure_ (i := 11) (N := some 6) (v := ?_) (a' := ?_) #[true, true, true, true, true, true, true, true, true, true, true, true] rfl rfl (any_of HT_.out (by kernel_rfl)) (fun _ _ _ h => h) (Or.inl ⟨by rfl, ?_⟩) ?_ ?_
            rotate_left
            ·intro w'
             go_simp
             with_reducible rfl
            rotate_left
            ·simp only [Act.put, List.setIfInBounds_toArray, List.set_cons_zero, List.set_cons_succ, i64_w, i32_w]
             rfl
            refine done_ (done_of HT_.out (by kernel_rfl)) ?_
            try go_wp2
            go_ret
            exact ⟨by first | rfl | (simp [errW_none, errW_some] <;> rfl) | (simp [*, errW_none, errW_some] <;> rfl), bB⟩
          ·rw [if_neg c20] at H
           exact absurd H (by simp)
         ·rw [if_neg c19] at H
          exact absurd H (by simp)
        ·rw [if_neg c18] at H
         exact absurd H (by simp)
       ·replace c17 := Bool.eq_false_iff.mpr c17
        subst c17
        have H1 : (if (l0_2.length : Int) = (l1_2.length : Int) then (some 0) else ((semigroupref04_sign.f (decide ((l0_2.length : Int) < (l1_2.length : Int)))).bind fun t327 => (some t327))) = some r := by rw [if_neg (show ¬ (false = true) by decide)] at H; exact H
        clear H
        have H := H1
        clear H1
        by_cases c27 : (l0_2.length : Int) = (l1_2.length : Int)
        ·rw [if_pos c27] at H
         have c27b0 : ((l0_2.length : Int) == (l1_2.length : Int)) = true := beq_iff_eq.mpr c27
         have c27b1 : ((l0_2.length : Int) != (l1_2.length : Int)) = false := bne_eq_false_iff_eq.mpr c27
         have c27b2 : (l0_2.length == l1_2.length) = true := by first | simpa using c27 | (simp at c27 ⊢; omega)
         clear c27
         obtain rfl := Option.some.inj H
         have hnb28 := NB320_321.out
         have hnc28 := NB321_320.out
         have hcz29_0 : wc.cell? ⟨gb320, 0, none⟩ = some (.int .i64 a0_0) := (blk_cell BK320.out 0).trans rfl
         have hcz29_1 : wc.cell? ⟨gb320, 1, none⟩ = some (.int .i64 a0_1) := (blk_cell BK320.out 1).trans rfl
         have hcz29_2 : wc.cell? ⟨gb320, 2, none⟩ = some (.slice A0_2 l0_2.length c0_2) := (blk_cell BK320.out 2).trans rfl
         have hfz29_0 := blk_frozen BK320.out 0
         have hfz29_1 := blk_frozen BK320.out 1
         have hfz29_2 := blk_frozen BK320.out 2
         have hcz30_0 : wc.cell? ⟨gb321, 0, none⟩ = some (.int .i64 a1_0) := (blk_cell BK321.out 0).trans rfl
         have hcz30_1 : wc.cell? ⟨gb321, 1, none⟩ = some (.int .i64 a1_1) := (blk_cell BK321.out 1).trans rfl
         have hcz30_2 : wc.cell? ⟨gb321, 2, none⟩ = some (.slice A1_2 l1_2.length c1_2) := (blk_cell BK321.out 2).trans rfl
         have hfz30_0 := blk_frozen BK321.out 0
         have hfz30_1 := blk_frozen BK321.out 1
         have hfz30_2 := blk_frozen BK321.out 2
         go_wp2
         go_ret
         exact ⟨by first | rfl | (simp [errW_none, errW_some] <;> rfl) | (simp [*, errW_none, errW_some] <;> rfl), bB⟩
        ·rw [if_neg c27] at H
         have c27b0 : ((l0_2.length : Int) == (l1_2.length : Int)) = false := beq_eq_false_iff_ne.mpr c27
         have c27b1 : ((l0_2.length : Int) != (l1_2.length : Int)) = true := bne_iff_ne.mpr c27
         have c27b2 : (l0_2.length == l1_2.length) = false := by first | simpa using c27 | (simp at c27 ⊢; omega)
         replace H := Option.bind_eq_some_iff.mp H
         obtain ⟨t327, A310, H⟩ := H
         replace H : (some t327) = some r := H
         have A31 := Aside0.mk A310
         clear A310
         obtain rfl := Option.some.inj H
         have hnb32 := NB320_321.out
         have hnc32 := NB321_320.out
         have hcz33_0 : wc.cell? ⟨gb320, 0, none⟩ = some (.int .i64 a0_0) := (blk_cell BK320.out 0).trans rfl
         have hcz33_1 : wc.cell? ⟨gb320, 1, none⟩ = some (.int .i64 a0_1) := (blk_cell BK320.out 1).trans rfl
         have hcz33_2 : wc.cell? ⟨gb320, 2, none⟩ = some (.slice A0_2 l0_2.length c0_2) := (blk_cell BK320.out 2).trans rfl
         have hfz33_0 := blk_frozen BK320.out 0
         have hfz33_1 := blk_frozen BK320.out 1
         have hfz33_2 := blk_frozen BK320.out 2
         have hcz34_0 : wc.cell? ⟨gb321, 0, none⟩ = some (.int .i64 a1_0) := (blk_cell BK321.out 0).trans rfl
         have hcz34_1 : wc.cell? ⟨gb321, 1, none⟩ = some (.int .i64 a1_1) := (blk_cell BK321.out 1).trans rfl
         have hcz34_2 : wc.cell? ⟨gb321, 2, none⟩ = some (.slice A1_2 l1_2.length c1_2) := (blk_cell BK321.out 2).trans rfl
         have hfz34_0 := blk_frozen BK321.out 0
         have hfz34_1 := blk_frozen BK321.out 1
         have hfz34_2 := blk_frozen BK321.out 2
         go_wp2_with (first | ((with_reducible refine gate_callee (f := 53) rfl ?_); refine goesL_ (some 73) rfl rfl Try.func53 (by kernel_rfl) rfl #[.bool (decide ((l0_2.length : Int) < (l1_2.length : Int)))] rfl (by (try simp only [List.map_toArray, List.map_cons, List.map_nil]); first | done | rfl | (simp only [List.length_drop, List.length_take]; rfl) | (simp only [Int.ofNat_lt, Int.ofNat_le]; rfl)) ?_; (with_reducible refine (semigroupref04_sign.calls (decide ((l0_2.length : Int) < (l1_2.length : Int))) t327 _ A31.out).mono ?_); rintro e w' ⟨rfl, ⟨nd, rfl⟩⟩; refine ⟨_, rfl, ?_⟩))
         go_ret
         exact ⟨by first | rfl | (simp [errW_none, errW_some] <;> rfl) | (simp [*, errW_none, errW_some] <;> rfl), bB⟩
  ·rw [if_neg c4] at H
   have c4b0 : (a0_1 == a1_1) = false := beq_eq_false_iff_ne.mpr c4
   have c4b1 : (a0_1 != a1_1) = true := bne_iff_ne.mpr c4
   replace H := Option.bind_eq_some_iff.mp H
   obtain ⟨t322, A350, H⟩ := H
   replace H : (some t322) = some r := H
   have A35 := Aside0.mk A350
   clear A350
   obtain rfl := Option.some.inj H
   go_enter Try.func24, Try.ntmps24
   go_wp2_with (first | ((with_reducible refine gate_dst (N := 2) rfl ?_); (try (refine gate_guard (by rfl) ?_; dsimp only)); refine box_event ?hg (N := 2) ?hd (cs := #[.int .i64 a0_0, .int .i64 a0_1, .slice A0_2 l0_2.length c0_2]) (t := 24) ?hr ?_; (case hd => rfl); (case hg => rfl); (case hr => first | (go_simp; done) | (go_simp; rfl)); intro gb320 hg w36 hbox hb; have n0_ := Aside0.mk (below_step (bB) hb); have n1_ := Aside0.mk (hbox); have n2_ := Aside0.mk ((by rw [hg]; exact (below_size (bB)) : w.heap.size ≤ gb320)); have n3_ := Aside0.mk ((by rw [hg]; exact (below_size (bB)) : w.heap.size ≤ gb320)); clear HB; have HB := n0_; have BK320 := n1_; have GW320 := n2_; have GE320 := n3_; clear n0_ n1_ n2_ n3_; clear hb hbox hg) | ((with_reducible refine gate_dst (N := 3) rfl ?_); (try (refine gate_guard (by rfl) ?_; dsimp only)); refine box_event ?hg (N := 3) ?hd (cs := #[.int .i64 a1_0, .int .i64 a1_1, .slice A1_2 l1_2.length c1_2]) (t := 24) ?hr ?_; (case hd => rfl); (case hg => rfl); (case hr => first | (go_simp; done) | (go_simp; rfl)); intro gb321 hg w37 hbox hb; have n0_ := Aside0.mk (blk_below (g := gb320) (o := .cells #[.int .i64 a0_0, .int .i64 a0_1, .slice A0_2 l0_2.length c0_2] 24 (0, 0)) (bK) hb); have n1_ := Aside0.mk (below_step (bB) hb); have n2_ := Aside0.mk (hbox); have n3_ := Aside0.mk ((by rw [hg]; exact (below_size (bB)) : w.heap.size ≤ gb321)); have n4_ := Aside0.mk ((by rw [hg]; exact (below_size (bB)) : w.heap.size ≤ gb321)); have n5_ := Aside0.mk ((by rw [hg]; exact Nat.ne_of_lt (blk_lt (g := gb320) (o := .cells #[.int .i64 a0_0, .int .i64 a0_1, .slice A0_2 l0_2.length c0_2] 24 (0, 0)) (bK)) : gb320 ≠ gb321)); have n6_ := Aside0.mk ((by rw [hg]; exact Nat.ne_of_gt (blk_lt (g := gb320) (o := .cells #[.int .i64 a0_0, .int .i64 a0_1, .slice A0_2 l0_2.length c0_2] 24 (0, 0)) (bK)) : gb321 ≠ gb320)); clear BK320; clear HB; have BK320 := n0_; have HB := n1_; have BK321 := n2_; have GW321 := n3_; have GE321 := n4_; have NB320_321 := n5_; have NB321_320 := n6_; clear n0_ n1_ n2_ n3_ n4_ n5_ n6_; clear hb hbox hg; have hnb38 := NB320_321.out; have hnc38 := NB321_320.out; have hcz39_0 : w37.cell? ⟨gb320, 0, none⟩ = some (.int .i64 a0_0) := (blk_cell BK320.out 0).trans rfl; have hcz39_1 : w37.cell? ⟨gb320, 1, none⟩ = some (.int .i64 a0_1) := (blk_cell BK320.out 1).trans rfl; have hcz39_2 : w37.cell? ⟨gb320, 2, none⟩ = some (.slice A0_2 l0_2.length c0_2) := (blk_cell BK320.out 2).trans rfl; have hfz39_0 := blk_frozen BK320.out 0; have hfz39_1 := blk_frozen BK320.out 1; have hfz39_2 := blk_frozen BK320.out 2; have hcz40_0 : w37.cell? ⟨gb321, 0, none⟩ = some (.int .i64 a1_0) := (blk_cell BK321.out 0).trans rfl; have hcz40_1 : w37.cell? ⟨gb321, 1, none⟩ = some (.int .i64 a1_1) := (blk_cell BK321.out 1).trans rfl; have hcz40_2 : w37.cell? ⟨gb321, 2, none⟩ = some (.slice A1_2 l1_2.length c1_2) := (blk_cell BK321.out 2).trans rfl; have hfz40_0 := blk_frozen BK321.out 0; have hfz40_1 := blk_frozen BK321.out 1; have hfz40_2 := blk_frozen BK321.out 2) | ((with_reducible refine gate_callee (f := 53) rfl ?_); refine goesL_ (some 30) rfl rfl Try.func53 (by kernel_rfl) rfl #[.bool (decide (a0_1 < a1_1))] rfl (by (try simp only [List.map_toArray, List.map_cons, List.map_nil]); first | done | rfl | (simp only [List.length_drop, List.length_take]; rfl) | (simp only [Int.ofNat_lt, Int.ofNat_le]; rfl)) ?_; (with_reducible refine (semigroupref04_sign.calls (decide (a0_1 < a1_1)) t322 _ A35.out).mono ?_); rintro e w' ⟨rfl, ⟨nd, rfl⟩⟩; refine ⟨_, rfl, ?_⟩))
   go_ret
   exact ⟨by first | rfl | (simp [errW_none, errW_some] <;> rfl) | (simp [*, errW_none, errW_some] <;> rfl), bB⟩
 ·rw [if_neg c3] at H
  have c3b0 : (a0_0 == a1_0) = false := beq_eq_false_iff_ne.mpr c3
  have c3b1 : (a0_0 != a1_0) = true := bne_iff_ne.mpr c3
  replace H := Option.bind_eq_some_iff.mp H
  obtain ⟨t323, A410, H⟩ := H
  replace H : (some t323) = some r := H
  have A41 := Aside0.mk A410
  clear A410
  obtain rfl := Option.some.inj H
  go_enter Try.func24, Try.ntmps24
  go_wp2_with (first | ((with_reducible refine gate_dst (N := 2) rfl ?_); (try (refine gate_guard (by rfl) ?_; dsimp only)); refine box_event ?hg (N := 2) ?hd (cs := #[.int .i64 a0_0, .int .i64 a0_1, .slice A0_2 l0_2.length c0_2]) (t := 24) ?hr ?_; (case hd => rfl); (case hg => rfl); (case hr => first | (go_simp; done) | (go_simp; rfl)); intro gb320 hg w42 hbox hb; have n0_ := Aside0.mk (below_step (bB) hb); have n1_ := Aside0.mk (hbox); have n2_ := Aside0.mk ((by rw [hg]; exact (below_size (bB)) : w.heap.size ≤ gb320)); have n3_ := Aside0.mk ((by rw [hg]; exact (below_size (bB)) : w.heap.size ≤ gb320)); clear HB; have HB := n0_; have BK320 := n1_; have GW320 := n2_; have GE320 := n3_; clear n0_ n1_ n2_ n3_; clear hb hbox hg) | ((with_reducible refine gate_dst (N := 3) rfl ?_); (try (refine gate_guard (by rfl) ?_; dsimp only)); refine box_event ?hg (N := 3) ?hd (cs := #[.int .i64 a1_0, .int .i64 a1_1, .slice A1_2 l1_2.length c1_2]) (t := 24) ?hr ?_; (case hd => rfl); (case hg => rfl); (case hr => first | (go_simp; done) | (go_simp; rfl)); intro gb321 hg w43 hbox hb; have n0_ := Aside0.mk (blk_below (g := gb320) (o := .cells #[.int .i64 a0_0, .int .i64 a0_1, .slice A0_2 l0_2.length c0_2] 24 (0, 0)) (bK) hb); have n1_ := Aside0.mk (below_step (bB) hb); have n2_ := Aside0.mk (hbox); have n3_ := Aside0.mk ((by rw [hg]; exact (below_size (bB)) : w.heap.size ≤ gb321)); have n4_ := Aside0.mk ((by rw [hg]; exact (below_size (bB)) : w.heap.size ≤ gb321)); have n5_ := Aside0.mk ((by rw [hg]; exact Nat.ne_of_lt (blk_lt (g := gb320) (o := .cells #[.int .i64 a0_0, .int .i64 a0_1, .slice A0_2 l0_2.length c0_2] 24 (0, 0)) (bK)) : gb320 ≠ gb321)); have n6_ := Aside0.mk ((by rw [hg]; exact Nat.ne_of_gt (blk_lt (g := gb320) (o := .cells #[.int .i64 a0_0, .int .i64 a0_1, .slice A0_2 l0_2.length c0_2] 24 (0, 0)) (bK)) : gb321 ≠ gb320)); clear BK320; clear HB; have BK320 := n0_; have HB := n1_; have BK321 := n2_; have GW321 := n3_; have GE321 := n4_; have NB320_321 := n5_; have NB321_320 := n6_; clear n0_ n1_ n2_ n3_ n4_ n5_ n6_; clear hb hbox hg; have hnb44 := NB320_321.out; have hnc44 := NB321_320.out; have hcz45_0 : w43.cell? ⟨gb320, 0, none⟩ = some (.int .i64 a0_0) := (blk_cell BK320.out 0).trans rfl; have hcz45_1 : w43.cell? ⟨gb320, 1, none⟩ = some (.int .i64 a0_1) := (blk_cell BK320.out 1).trans rfl; have hcz45_2 : w43.cell? ⟨gb320, 2, none⟩ = some (.slice A0_2 l0_2.length c0_2) := (blk_cell BK320.out 2).trans rfl; have hfz45_0 := blk_frozen BK320.out 0; have hfz45_1 := blk_frozen BK320.out 1; have hfz45_2 := blk_frozen BK320.out 2; have hcz46_0 : w43.cell? ⟨gb321, 0, none⟩ = some (.int .i64 a1_0) := (blk_cell BK321.out 0).trans rfl; have hcz46_1 : w43.cell? ⟨gb321, 1, none⟩ = some (.int .i64 a1_1) := (blk_cell BK321.out 1).trans rfl; have hcz46_2 : w43.cell? ⟨gb321, 2, none⟩ = some (.slice A1_2 l1_2.length c1_2) := (blk_cell BK321.out 2).trans rfl; have hfz46_0 := blk_frozen BK321.out 0; have hfz46_1 := blk_frozen BK321.out 1; have hfz46_2 := blk_frozen BK321.out 2) | ((with_reducible refine gate_callee (f := 53) rfl ?_); refine goesL_ (some 18) rfl rfl Try.func53 (by kernel_rfl) rfl #[.bool (decide (a0_0 < a1_0))] rfl (by (try simp only [List.map_toArray, List.map_cons, List.map_nil]); first | done | rfl | (simp only [List.length_drop, List.length_take]; rfl) | (simp only [Int.ofNat_lt, Int.ofNat_le]; rfl)) ?_; (with_reducible refine (semigroupref04_sign.calls (decide (a0_0 < a1_0)) t323 _ A41.out).mono ?_); rintro e w' ⟨rfl, ⟨nd, rfl⟩⟩; refine ⟨_, rfl, ?_⟩))
  go_ret
  exact ⟨by first | rfl | (simp [errW_none, errW_some] <;> rfl) | (simp [*, errW_none, errW_some] <;> rfl), bB⟩
end Go.Proofs.Ytjofkebiacaciaa.PAll
end
section
namespace Go.Proofs.Ytjofkebiacaciaa.PAll
open Go.RowKit Go.Proofs.YtjofkebiacaciaaW.PrintWords Go.Proofs.YtjofkebiacaciaaW.PrintLast Go.Proofs.YtjofkebiacaciaaW.PrintMore
attribute [local go_sem] max2_int min2_int max_two min_two max_three min_three max_four min_four
set_option linter.unusedVariables false
set_option linter.unusedSimpArgs false
def simplify_order.f (a0 : Int) (a1 : Int) : Option (Int) := if a0 < a1 then (some (-1)) else (if a0 > a1 then (some 1) else (some 0))
set_option maxHeartbeats 8000000 in
set_option maxRecDepth 100000 in
theorem simplify_order.calls (a0 : Int) (a1 : Int) (r : Int) (w : World) (h : simplify_order.f a0 a1 = some r) :
  Calls Try.prog 73 #[.int .i64 a0, .int .i64 a1] w fun e w' => e = .returned (.int .i64 r) ∧ Drawn0 w w' := by
 have H : (if a0 < a1 then (some (-1)) else (if a0 > a1 then (some 1) else (some 0))) = some r := h
 clear h
 by_cases c3 : a0 < a1
 ·rw [if_pos c3] at H
  have c3b0 : decide (a0 < a1) = true := decide_eq_true c3
  clear c3
  obtain rfl := Option.some.inj H
  go_enter Try.func73, Try.ntmps73
  go_wp2
  go_ret
  exact ⟨by first | rfl | (simp; done) | (simp [*]; done), by repeat (first | exact Drawn0.refl _ | apply Drawn0.step)⟩
 ·rw [if_neg c3] at H
  have c3b0 : decide (a0 < a1) = false := decide_eq_false c3
  clear c3
  by_cases c4 : a0 > a1
  ·rw [if_pos c4] at H
   have c4b0 : decide (a1 < a0) = true := decide_eq_true c4
   clear c4
   obtain rfl := Option.some.inj H
   go_enter Try.func73, Try.ntmps73
   go_wp2
   go_ret
   exact ⟨by first | rfl | (simp; done) | (simp [*]; done), by repeat (first | exact Drawn0.refl _ | apply Drawn0.step)⟩
  ·rw [if_neg c4] at H
   have c4b0 : decide (a1 < a0) = false := decide_eq_false c4
   clear c4
   obtain rfl := Option.some.inj H
   go_enter Try.func73, Try.ntmps73
   go_wp2
   go_ret
   exact ⟨by first | rfl | (simp; done) | (simp [*]; done), by repeat (first | exact Drawn0.refl _ | apply Drawn0.step)⟩
end Go.Proofs.Ytjofkebiacaciaa.PAll
end
section
namespace Go.Proofs.Ytjofkebiacaciaa.PAll
open Go.RowKit Go.Proofs.YtjofkebiacaciaaW.PrintWords Go.Proofs.YtjofkebiacaciaaW.PrintLast Go.Proofs.YtjofkebiacaciaaW.PrintMore
attribute [local go_sem] max2_int min2_int max_two min_two max_three min_three max_four min_four
set_option linter.unusedVariables false
set_option linter.unusedSimpArgs false
mutual
def simplify_Compare.l0 : Nat → Int → Int → Int → List (S24) → Int → Int → List (S24) → Option (Int)
 | 0, _, _, _, _, _, _, _ => none
 | k + 1, x7, x347000, x347001, x347002, x348000, x348001, x348002 => if x7 < (x347002.length : Int) then (simplify_Compare.j1 k x7 (decide (x7 < (x348002.length : Int))) x347000 x347001 x347002 x348000 x348001 x348002) else (simplify_Compare.j1 k x7 false x347000 x347001 x347002 x348000 x348001 x348002)
def simplify_Compare.j1 : Nat → Int → Bool → Int → Int → List (S24) → Int → Int → List (S24) → Option (Int)
 | 0, _, _, _, _, _, _, _, _ => none
 | k + 1, x7, x36, x347000, x347001, x347002, x348000, x348001, x348002 => if x36 = true then (if 0 ≤ x7 then (if x7 < (x347002.length : Int) then (if x7 < (x348002.length : Int) then ((simplify_Compare.f k ((rd_T24 x347002 x7).f0) ((rd_T24 x347002 x7).f1) ((rd_T24 x347002 x7).f2) ((rd_T24 x348002 x7).f0) ((rd_T24 x348002 x7).f1) ((rd_T24 x348002 x7).f2)).bind fun t352 => (if t352 = 0 then (simplify_Compare.l0 k (wrap64 (x7 + 1)) x347000 x347001 x347002 x348000 x348001 x348002) else (some t352))) else (none)) else (none)) else (none)) else ((simplify_order.f (x347002.length : Int) (x348002.length : Int)).bind fun t353 => (some t353))
def simplify_Compare.f : Nat → Int → Int → List (S24) → Int → Int → List (S24) → Option (Int)
 | 0, _, _, _, _, _, _ => none
 | k + 1, a0_0, a0_1, l0_2, a1_0, a1_1, l1_2 => (simplify_order.f a0_0 a1_0).bind fun t348 => (if t348 = 0 then ((simplify_order.f a0_1 a1_1).bind fun t349 => (if t349 = 0 then (simplify_Compare.l0 k 0 a0_0 a0_1 l0_2 a1_0 a1_1 l1_2) else (some t349))) else (some t348))
end
theorem simplify_Compare.mono_l : ∀ k, (∀ y0 y1 y2 y3 y4 y5, LeO (simplify_Compare.f k y0 y1 y2 y3 y4 y5) (simplify_Compare.f (k + 1) y0 y1 y2 y3 y4 y5)) ∧ (∀ y0 y1 y2 y3 y4 y5 y6, LeO (simplify_Compare.l0 k y0 y1 y2 y3 y4 y5 y6) (simplify_Compare.l0 (k + 1) y0 y1 y2 y3 y4 y5 y6)) ∧ (∀ y0 y1 y2 y3 y4 y5 y6 y7, LeO (simplify_Compare.j1 k y0 y1 y2 y3 y4 y5 y6 y7) (simplify_Compare.j1 (k + 1) y0 y1 y2 y3 y4 y5 y6 y7))
 | 0 => ⟨fun _ _ _ _ _ _ r h => by simp [simplify_Compare.f] at h, fun _ _ _ _ _ _ _ r h => by simp [simplify_Compare.l0] at h, fun _ _ _ _ _ _ _ _ r h => by simp [simplify_Compare.j1] at h⟩
 | k + 1 => by
  obtain ⟨ih0, ih1, ih2⟩ := simplify_Compare.mono_l k
  refine ⟨?_, ?_, ?_⟩
  ·intro y0 y1 y2 y3 y4 y5
   unfold simplify_Compare.f
   repeat' first
   | (with_reducible exact ih0 _ _ _ _ _ _)
   | (with_reducible exact ih1 _ _ _ _ _ _ _)
   | (with_reducible exact ih2 _ _ _ _ _ _ _ _)
   | (with_reducible exact LeO.refl _)
   | (with_reducible exact LeO.none _)
   | (with_reducible refine LeO.ite ?_ ?_)
   | (with_reducible refine LeO.bind ?_ (fun _ => ?_))
   | exact ih0 _ _ _ _ _ _
   | exact ih1 _ _ _ _ _ _ _
   | exact ih2 _ _ _ _ _ _ _ _
   | exact LeO.none _
   | refine LeO.ite ?_ ?_
   | refine LeO.bind ?_ (fun _ => ?_)
  ·intro y0 y1 y2 y3 y4 y5 y6
   unfold simplify_Compare.l0
   repeat' first
   | (with_reducible exact ih0 _ _ _ _ _ _)
   | (with_reducible exact ih1 _ _ _ _ _ _ _)
   | (with_reducible exact ih2 _ _ _ _ _ _ _ _)
   | (with_reducible exact LeO.refl _)
   | (with_reducible exact LeO.none _)
   | (with_reducible refine LeO.ite ?_ ?_)
   | (with_reducible refine LeO.bind ?_ (fun _ => ?_))
   | exact ih0 _ _ _ _ _ _
   | exact ih1 _ _ _ _ _ _ _
   | exact ih2 _ _ _ _ _ _ _ _
   | exact LeO.none _
   | refine LeO.ite ?_ ?_
   | refine LeO.bind ?_ (fun _ => ?_)
  ·intro y0 y1 y2 y3 y4 y5 y6 y7
   unfold simplify_Compare.j1
   repeat' first
   | (with_reducible exact ih0 _ _ _ _ _ _)
   | (with_reducible exact ih1 _ _ _ _ _ _ _)
   | (with_reducible exact ih2 _ _ _ _ _ _ _ _)
   | (with_reducible exact LeO.refl _)
   | (with_reducible exact LeO.none _)
   | (with_reducible refine LeO.ite ?_ ?_)
   | (with_reducible refine LeO.bind ?_ (fun _ => ?_))
   | exact ih0 _ _ _ _ _ _
   | exact ih1 _ _ _ _ _ _ _
   | exact ih2 _ _ _ _ _ _ _ _
   | exact LeO.none _
   | refine LeO.ite ?_ ?_
   | refine LeO.bind ?_ (fun _ => ?_)
theorem simplify_Compare.mono : ∀ a0 a1 a2 a3 a4 a5 k, LeO (simplify_Compare.f k a0 a1 a2 a3 a4 a5) (simplify_Compare.f (k + 1) a0 a1 a2 a3 a4 a5) := by
 intro a0 a1 a2 a3 a4 a5 k
 obtain ⟨ih0, ih1, ih2⟩ := simplify_Compare.mono_l k
 exact ih0 a0 a1 a2 a3 a4 a5
def simplify_Compare.T10 : Bool × List (List Nat × List Nat) := (true, [([], []), ([0], [0]), ([], []), ([1, 2], [1, 2]), ([3], [3]), ([], []), ([5], [5]), ([], []), ([6, 7], [6, 7]), ([8], [8]), ([4, 9], [4, 9]), ([10, 10, 0, 1, 2, 3, 4, 5, 6, 7, 8, 9, 10], [10])])
def simplify_Compare.B10 : List Nat := [0, 1, 0, 7, 15, 0, 32, 0, 224, 480, 1023, 2047]
theorem simplify_Compare.tab10 : rtab .any (opsOf Try.f52 10) = simplify_Compare.T10 := by kernel_rfl
theorem simplify_Compare.bits10 : waitsOk simplify_Compare.T10.2 simplify_Compare.B10 = true := by kernel_rfl
set_option maxHeartbeats 8000000 in
set_option maxRecDepth 100000 in
theorem simplify_Compare.calls (k : Nat) : ∀ (a0_0 : Int) (a0_1 : Int) (A0_2 : Option Addr) (c0_2 : Nat) (l0_2 : List (S24)) (a1_0 : Int) (a1_1 : Int) (A1_2 : Option Addr) (c1_2 : Nat) (l1_2 : List (S24)) (r : Int) (w : World) (hr0_2 : Kd.C k24 w A0_2 l0_2.length l0_2) (hc0_2 : l0_2.length ≤ c0_2) (hr1_2 : Kd.C k24 w A1_2 l1_2.length l1_2) (hc1_2 : l1_2.length ≤ c1_2) (h : simplify_Compare.f k a0_0 a0_1 l0_2 a1_0 a1_1 l1_2 = some r),
  Calls Try.prog 52 #[.agg #[.int .i64 a0_0, .int .i64 a0_1, .slice A0_2 l0_2.length c0_2], .agg #[.int .i64 a1_0, .int .i64 a1_1, .slice A1_2 l1_2.length c1_2]] w fun e w' => e = .returned (.int .i64 r) ∧ Below w.heap.size w w' := by
 induction k using Nat.strongRecOn with
 | _ k ih =>
 intro a0_0 a0_1 A0_2 c0_2 l0_2 a1_0 a1_1 A1_2 c1_2 l1_2 r w hr0_2 hc0_2 hr1_2 hc1_2 h
 cases k with
 | zero => exact absurd h (by simp [simplify_Compare.f])
 | succ k =>
 simp only [simplify_Compare.f] at h
 have hu24 := Try.underlying24
 have HR0_2 := Aside0.mk hr0_2
 have HC0_2 := Aside0.mk hc0_2
 clear hr0_2 hc0_2
 have HR1_2 := Aside0.mk hr1_2
 have HC1_2 := Aside0.mk hc1_2
 clear hr1_2 hc1_2
 have HB := Aside0.mk (Below.refl w.heap.size w)
 have H : ((simplify_order.f a0_0 a1_0).bind fun t348 => (if t348 = 0 then ((simplify_order.f a0_1 a1_1).bind fun t349 => (if t349 = 0 then (simplify_Compare.l0 k 0 a0_0 a0_1 l0_2 a1_0 a1_1 l1_2) else (some t349))) else (some t348))) = some r := h
 clear h
 replace H := Option.bind_eq_some_iff.mp H
 obtain ⟨t348, A30, H⟩ := H
 replace H : (if t348 = 0 then ((simplify_order.f a0_1 a1_1).bind fun t349 => (if t349 = 0 then (simplify_Compare.l0 k 0 a0_0 a0_1 l0_2 a1_0 a1_1 l1_2) else (some t349))) else (some t348)) = some r := H
 have A3 := Aside0.mk A30
 clear A30
 by_cases c4 : t348 = 0
 ·rw [if_pos c4] at H
  have c4b0 : (t348 == 0) = true := beq_iff_eq.mpr c4
  have c4b1 : (t348 != 0) = false := bne_eq_false_iff_eq.mpr c4
  clear c4
  replace H := Option.bind_eq_some_iff.mp H
  obtain ⟨t349, A50, H⟩ := H
  replace H : (if t349 = 0 then (simplify_Compare.l0 k 0 a0_0 a0_1 l0_2 a1_0 a1_1 l1_2) else (some t349)) = some r := H
  have A5 := Aside0.mk A50
  clear A50
  by_cases c6 : t349 = 0
  ·rw [if_pos c6] at H
   have c6b0 : (t349 == 0) = true := beq_iff_eq.mpr c6
   have c6b1 : (t349 != 0) = false := bne_eq_false_iff_eq.mpr c6
   clear c6
   have H' := Aside0.mk H
   clear H
   go_enter Try.func52, Try.ntmps52
   go_wp2_with (first | ((with_reducible refine gate_dst (N := 2) rfl ?_); (try (refine gate_guard (by rfl) ?_; dsimp only)); refine box_event ?hg (N := 2) ?hd (cs := #[.int .i64 a0_0, .int .i64 a0_1, .slice A0_2 l0_2.length c0_2]) (t := 24) ?hr ?_; (case hd => rfl); (case hg => rfl); (case hr => first | (go_simp; done) | (go_simp; rfl)); intro gb346 hg w7 hbox hb; have n0_ := Aside0.mk (below_step (bB) hb); have n1_ := Aside0.mk (hbox); have n2_ := Aside0.mk ((by rw [hg]; exact (below_size (bB)) : w.heap.size ≤ gb346)); have n3_ := Aside0.mk ((by rw [hg]; exact (below_size (bB)) : w.heap.size ≤ gb346)); clear HB; have HB := n0_; have BK346 := n1_; have GW346 := n2_; have GE346 := n3_; clear n0_ n1_ n2_ n3_; clear hb hbox hg) | ((with_reducible refine gate_dst (N := 3) rfl ?_); (try (refine gate_guard (by rfl) ?_; dsimp only)); refine box_event ?hg (N := 3) ?hd (cs := #[.int .i64 a1_0, .int .i64 a1_1, .slice A1_2 l1_2.length c1_2]) (t := 24) ?hr ?_; (case hd => rfl); (case hg => rfl); (case hr => first | (go_simp; done) | (go_simp; rfl)); intro gb347 hg w8 hbox hb; have n0_ := Aside0.mk (blk_below (g := gb346) (o := .cells #[.int .i64 a0_0, .int .i64 a0_1, .slice A0_2 l0_2.length c0_2] 24 (0, 0)) (bK) hb); have n1_ := Aside0.mk (below_step (bB) hb); have n2_ := Aside0.mk (hbox); have n3_ := Aside0.mk ((by rw [hg]; exact (below_size (bB)) : w.heap.size ≤ gb347)); have n4_ := Aside0.mk ((by rw [hg]; exact (below_size (bB)) : w.heap.size ≤ gb347)); have n5_ := Aside0.mk ((by rw [hg]; exact Nat.ne_of_lt (blk_lt (g := gb346) (o := .cells #[.int .i64 a0_0, .int .i64 a0_1, .slice A0_2 l0_2.length c0_2] 24 (0, 0)) (bK)) : gb346 ≠ gb347)); have n6_ := Aside0.mk ((by rw [hg]; exact Nat.ne_of_gt (blk_lt (g := gb346) (o := .cells #[.int .i64 a0_0, .int .i64 a0_1, .slice A0_2 l0_2.length c0_2] 24 (0, 0)) (bK)) : gb347 ≠ gb346)); clear BK346; clear HB; have BK346 := n0_; have HB := n1_; have BK347 := n2_; have GW347 := n3_; have GE347 := n4_; have NB346_347 := n5_; have NB347_346 := n6_; clear n0_ n1_ n2_ n3_ n4_ n5_ n6_; clear hb hbox hg; have hnb9 := NB346_347.out; have hnc9 := NB347_346.out; have hcz10_0 : w8.cell? ⟨gb346, 0, none⟩ = some (.int .i64 a0_0) := (blk_cell BK346.out 0).trans rfl; have hcz10_1 : w8.cell? ⟨gb346, 1, none⟩ = some (.int .i64 a0_1) := (blk_cell BK346.out 1).trans rfl; have hcz10_2 : w8.cell? ⟨gb346, 2, none⟩ = some (.slice A0_2 l0_2.length c0_2) := (blk_cell BK346.out 2).trans rfl; have hfz10_0 := blk_frozen BK346.out 0; have hfz10_1 := blk_frozen BK346.out 1; have hfz10_2 := blk_frozen BK346.out 2; have hcz11_0 : w8.cell? ⟨gb347, 0, none⟩ = some (.int .i64 a1_0) := (blk_cell BK347.out 0).trans rfl; have hcz11_1 : w8.cell? ⟨gb347, 1, none⟩ = some (.int .i64 a1_1) := (blk_cell BK347.out 1).trans rfl; have hcz11_2 : w8.cell? ⟨gb347, 2, none⟩ = some (.slice A1_2 l1_2.length c1_2) := (blk_cell BK347.out 2).trans rfl; have hfz11_0 := blk_frozen BK347.out 0; have hfz11_1 := blk_frozen BK347.out 1; have hfz11_2 := blk_frozen BK347.out 2) | ((with_reducible refine gate_callee (f := 73) rfl ?_); refine goesL_ (some 13) rfl rfl Try.func73 (by kernel_rfl) rfl #[.int .i64 a0_0, .int .i64 a1_0] rfl (by (try simp only [List.map_toArray, List.map_cons, List.map_nil]); first | done | rfl | (simp only [List.length_drop, List.length_take]; rfl) | (simp only [Int.ofNat_lt, Int.ofNat_le]; rfl)) ?_; (with_reducible refine (simplify_order.calls a0_0 a1_0 t348 _ A3.out).mono ?_); rintro e w' ⟨rfl, ⟨nd, rfl⟩⟩; refine ⟨_, rfl, ?_⟩) | ((with_reducible refine gate_callee (f := 73) rfl ?_); refine goesL_ (some 21) rfl rfl Try.func73 (by kernel_rfl) rfl #[.int .i64 a0_1, .int .i64 a1_1] rfl (by (try simp only [List.map_toArray, List.map_cons, List.map_nil]); first | done | rfl | (simp only [List.length_drop, List.length_take]; rfl) | (simp only [Int.ofNat_lt, Int.ofNat_le]; rfl)) ?_; (with_reducible refine (simplify_order.calls a0_1 a1_1 t349 _ A5.out).mono ?_); rintro e w' ⟨rfl, ⟨nd, rfl⟩⟩; refine ⟨_, rfl, ?_⟩))
   go_loopg [7] k (fun kq v7 w' => ∃ (x7_1 : Int), v7 = .int .i64 x7_1 ∧ Aside0 (simplify_Compare.l0 kq x7_1 a0_0 a0_1 l0_2 a1_0 a1_1 l1_2 = some r) ∧ Aside0 (kq ≤ k) ∧ Aside0 (w'.heap[gb346]? = some (.cells #[.int .i64 a0_0, .int .i64 a0_1, (.slice A0_2 l0_2.length c0_2)] 24 (0, 0))) ∧ Aside0 (w'.heap[gb347]? = some (.cells #[.int .i64 a1_0, .int .i64 a1_1, (.slice A1_2 l1_2.length c1_2)] 24 (0, 0))) ∧ Aside0 (Below w.heap.size w w'))
   case atStart => exact ⟨(0), (by first | rfl | (simp; done) | (simp [*]; done)), H', ⟨Nat.le_refl _⟩, ⟨bK⟩, ⟨bK⟩, ⟨bB⟩⟩
   case round =>
    clear H'
    try clear c1
    try clear p2
    try clear c4
    try clear c4b0
    try clear c4b1
    try clear c5
    try clear c6
    try clear c6b0
    try clear c6b1
    try clear c7
    try clear c9
    try clear hcz10_0
    try clear hcz10_1
    try clear hcz10_2
    try clear hcz11_0
    try clear hcz11_1
    try clear hcz11_2
    try clear hfz10_0
    try clear hfz10_1
    try clear hfz10_2
    try clear hfz11_0
    try clear hfz11_1
    try clear hfz11_2
    obtain ⟨x7_1, rfl, HA, HK1, BK346, BK347, HB⟩ := hrel
    cases gk with
    | zero => exact absurd HA.out (by simp [simplify_Compare.l0])
    | succ k1 =>
     have H := HA.out
     clear HA
     simp only [simplify_Compare.l0] at H
     have HC12 := Aside0.mk H
     clear H
     go_upto_region 8 with (fail)
     go_cut [36] (fun v36 wc => ∃ (kq : Nat) (x36_11 : Bool), v36 = .bool x36_11 ∧ Aside0 (simplify_Compare.j1 kq x7_1 x36_11 a0_0 a0_1 l0_2 a1_0 a1_1 l1_2 = some r) ∧ Aside0 (kq ≤ k1) ∧ Aside0 (wc.heap[gb346]? = some (.cells #[.int .i64 a0_0, .int .i64 a0_1, (.slice A0_2 l0_2.length c0_2)] 24 (0, 0))) ∧ Aside0 (wc.heap[gb347]? = some (.cells #[.int .i64 a1_0, .int .i64 a1_1, (.slice A1_2 l1_2.length c1_2)] 24 (0, 0))) ∧ Aside0 (Below w.heap.size w wc))
     case first =>
      have H := HC12.out
      clear HC12
      by_cases c13 : x7_1 < (l0_2.length : Int)
      ·rw [if_pos c13] at H
       have c13b0 : decide (x7_1 < (l0_2.length : Int)) = true := decide_eq_true c13
       clear c13
       (first | rw [c13b0] | (simp only [i64_w, i32_w]; rw [c13b0]) | skip)
       have H' := Aside0.mk H
       clear H
       have hnb14 := NB346_347.out
       have hnc14 := NB347_346.out
       have hcz15_0 : wr.cell? ⟨gb346, 0, none⟩ = some (.int .i64 a0_0) := (blk_cell BK346.out 0).trans rfl
       have hcz15_1 : wr.cell? ⟨gb346, 1, none⟩ = some (.int .i64 a0_1) := (blk_cell BK346.out 1).trans rfl
       have hcz15_2 : wr.cell? ⟨gb346, 2, none⟩ = some (.slice A0_2 l0_2.length c0_2) := (blk_cell BK346.out 2).trans rfl
       have hfz15_0 := blk_frozen BK346.out 0
       have hfz15_1 := blk_frozen BK346.out 1
       have hfz15_2 := blk_frozen BK346.out 2
       have hcz16_0 : wr.cell? ⟨gb347, 0, none⟩ = some (.int .i64 a1_0) := (blk_cell BK347.out 0).trans rfl
       have hcz16_1 : wr.cell? ⟨gb347, 1, none⟩ = some (.int .i64 a1_1) := (blk_cell BK347.out 1).trans rfl
       have hcz16_2 : wr.cell? ⟨gb347, 2, none⟩ = some (.slice A1_2 l1_2.length c1_2) := (blk_cell BK347.out 2).trans rfl
       have hfz16_0 := blk_frozen BK347.out 0
       have hfz16_1 := blk_frozen BK347.out 1
       have hfz16_2 := blk_frozen BK347.out 2
       go_wp2
       go_meet
       case rel => exact ⟨_, (decide (x7_1 < (l1_2.length : Int))), (by first | rfl | (simp; done) | (simp [*]; done)), H', ⟨by have := HK1.out; first | omega | exact Nat.le_refl _⟩, ⟨bK⟩, ⟨bK⟩, ⟨bB⟩⟩
      ·rw [if_neg c13] at H
       have c13b0 : decide (x7_1 < (l0_2.length : Int)) = false := decide_eq_false c13
       clear c13
       (first | rw [c13b0] | (simp only [i64_w, i32_w]; rw [c13b0]) | skip)
       have H' := Aside0.mk H
       clear H
       have hnb17 := NB346_347.out
       have hnc17 := NB347_346.out
       have hcz18_0 : wr.cell? ⟨gb346, 0, none⟩ = some (.int .i64 a0_0) := (blk_cell BK346.out 0).trans rfl
       have hcz18_1 : wr.cell? ⟨gb346, 1, none⟩ = some (.int .i64 a0_1) := (blk_cell BK346.out 1).trans rfl
       have hcz18_2 : wr.cell? ⟨gb346, 2, none⟩ = some (.slice A0_2 l0_2.length c0_2) := (blk_cell BK346.out 2).trans rfl
       have hfz18_0 := blk_frozen BK346.out 0
       have hfz18_1 := blk_frozen BK346.out 1
       have hfz18_2 := blk_frozen BK346.out 2
       go_wp2
       go_meet
       case rel => exact ⟨_, (false), (by first | rfl | (simp; done) | (simp [*]; done)), H', ⟨by have := HK1.out; first | omega | exact Nat.le_refl _⟩, ⟨bK⟩, ⟨bK⟩, ⟨bB⟩⟩
     case rest =>
      clear HC12
      try clear c1
      try clear p2
      try clear c4
      try clear c4b0
      try clear c4b1
      try clear c5
      try clear c6
      try clear c6b0
      try clear c6b1
      try clear c7
      try clear c9
      try clear c13
      try clear c13b0
      try clear c14
      try clear c17
      try clear hcz10_0
      try clear hcz10_1
      try clear hcz10_2
      try clear hcz11_0
      try clear hcz11_1
      try clear hcz11_2
      try clear hcz15_0
      try clear hcz15_1
      try clear hcz15_2
      try clear hcz16_0
      try clear hcz16_1
      try clear hcz16_2
      try clear hcz18_0
      try clear hcz18_1
      try clear hcz18_2
      try clear hfz10_0
      try clear hfz10_1
      try clear hfz10_2
      try clear hfz11_0
      try clear hfz11_1
      try clear hfz11_2
      try clear hfz15_0
      try clear hfz15_1
      try clear hfz15_2
      try clear hfz16_0
      try clear hfz16_1
      try clear hfz16_2
      try clear hfz18_0
      try clear hfz18_1
      try clear hfz18_2
      try clear p2
      obtain ⟨kq, x36_11, rfl, HA, HJ11, BK346, BK347, HB⟩ := hcut
      cases kq with
      | zero => exact absurd HA.out (by simp [simplify_Compare.j1])
      | succ kj11 =>
       have H := HA.out
       clear HA
       simp only [simplify_Compare.j1] at H
       by_cases c19 : x36_11 = true
       ·subst c19
        have H1 : (if 0 ≤ x7_1 then (if x7_1 < (l0_2.length : Int) then (if x7_1 < (l1_2.length : Int) then ((simplify_Compare.f kj11 ((rd_T24 l0_2 x7_1).f0) ((rd_T24 l0_2 x7_1).f1) ((rd_T24 l0_2 x7_1).f2) ((rd_T24 l1_2 x7_1).f0) ((rd_T24 l1_2 x7_1).f1) ((rd_T24 l1_2 x7_1).f2)).bind fun t352 => (if t352 = 0 then (simplify_Compare.l0 kj11 (wrap64 (x7_1 + 1)) a0_0 a0_1 l0_2 a1_0 a1_1 l1_2) else (some t352))) else (none)) else (none)) else (none)) = some r := by rw [if_pos rfl] at H; exact H
        clear H
        have H := H1
        clear H1
        by_cases c20 : 0 ≤ x7_1
        ·rw [if_pos c20] at H
         have c20b0 : decide (0 ≤ x7_1) = true := decide_eq_true c20
         clear c20
         by_cases c21 : x7_1 < (l0_2.length : Int)
         ·rw [if_pos c21] at H
          have c21b0 : decide (x7_1 < (l0_2.length : Int)) = true := decide_eq_true c21
          clear c21
          by_cases c22 : x7_1 < (l1_2.length : Int)
          ·rw [if_pos c22] at H
           have c22b0 : decide (x7_1 < (l1_2.length : Int)) = true := decide_eq_true c22
           clear c22
           replace H := Option.bind_eq_some_iff.mp H
           obtain ⟨t352, A230, H⟩ := H
           replace H : (if t352 = 0 then (simplify_Compare.l0 kj11 (wrap64 (x7_1 + 1)) a0_0 a0_1 l0_2 a1_0 a1_1 l1_2) else (some t352)) = some r := H
           have A23 := Aside0.mk A230
           clear A230
           by_cases c24 : t352 = 0
           ·rw [if_pos c24] at H
            have c24b0 : (t352 == 0) = true := beq_iff_eq.mpr c24
            have c24b1 : (t352 != 0) = false := bne_eq_false_iff_eq.mpr c24
            clear c24
            have H' := Aside0.mk H
            clear H
            try go_wp2
            have n0_ := Aside0.mk (blk_drew BK346.out)
            have n1_ := Aside0.mk (blk_drew BK347.out)
            have n2_ := Aside0.mk (below_drew1 HB.out)
            clear BK346
            clear BK347
            clear HB
            have BK346 := n0_
            have BK347 := n1_
            have HB := n2_
            clear n0_ n1_ n2_
            have p350 : 0 ≤ (x7_1 : Int) := of_decide_eq_true (by first | (with_reducible assumption) | assumption)
            have q350 : x7_1 < (l0_2.length : Int) := of_decide_eq_true (by first | (with_reducible assumption) | assumption)
            obtain ⟨ad350, A350_2, c350_2, e350, hx350_0, hx350_1, hx350_2, hl350_2, hi350_2⟩ := at_T24 HR0_2.out x7_1 p350 q350
            have hw350_2 := hx350_2
            have hw350_1 := hx350_1
            have hw350_0 := hx350_0
            cases e350
            replace hx350_0 := (HB.out.cell (World.block_lt_of_cell? w _ hx350_0)).trans hx350_0
            replace hx350_1 := (HB.out.cell (World.block_lt_of_cell? w _ hx350_1)).trans hx350_1
            replace hx350_2 := (HB.out.cell (World.block_lt_of_cell? w _ hx350_2)).trans hx350_2
            have HR350_2 := Aside0.mk hi350_2
            have HC350_2 := Aside0.mk hl350_2
            clear hi350_2 hl350_2
            replace p350 := eq_true p350
            replace q350 := eq_true q350
            have p351 : 0 ≤ (x7_1 : Int) := of_decide_eq_true (by first | (with_reducible assumption) | assumption)
            have q351 : x7_1 < (l1_2.length : Int) := of_decide_eq_true (by first | (with_reducible assumption) | assumption)
            obtain ⟨ad351, A351_2, c351_2, e351, hx351_0, hx351_1, hx351_2, hl351_2, hi351_2⟩ := at_T24 HR1_2.out x7_1 p351 q351
            have hw351_2 := hx351_2
            have hw351_1 := hx351_1
            have hw351_0 := hx351_0
            cases e351
            replace hx351_0 := (HB.out.cell (World.block_lt_of_cell? w _ hx351_0)).trans hx351_0
            replace hx351_1 := (HB.out.cell (World.block_lt_of_cell? w _ hx351_1)).trans hx351_1
            replace hx351_2 := (HB.out.cell (World.block_lt_of_cell? w _ hx351_2)).trans hx351_2
            have HR351_2 := Aside0.mk hi351_2
            have HC351_2 := Aside0.mk hl351_2
            clear hi351_2 hl351_2
            replace p351 := eq_true p351
            replace q351 := eq_true q351
            refine start_ (n := 12) (S := fun w' => w'.cell? ⟨gb346, 0, none⟩ = some (.int .i64 a0_0) ∧ w'.cell? ⟨gb346, 1, none⟩ = some (.int .i64 a0_1) ∧ w'.cell? ⟨gb346, 2, none⟩ = some (.slice (some ad350) l0_2.length c0_2) ∧ w'.cell? ⟨gb347, 0, none⟩ = some (.int .i64 a1_0) ∧ w'.cell? ⟨gb347, 1, none⟩ = some (.int .i64 a1_1) ∧ w'.cell? ⟨gb347, 2, none⟩ = some (.slice (some ad351) l1_2.length c1_2) ∧ w'.cell? (ad350.add ((x7_1).toNat * 3)) = some (.int .i64 ((rd_T24 l0_2 x7_1).f0)) ∧ w'.cell? ⟨(ad350.add ((x7_1).toNat * 3)).block, (ad350.add ((x7_1).toNat * 3)).off + 1, none⟩ = some (.int .i64 ((rd_T24 l0_2 x7_1).f1)) ∧ w'.cell? ⟨(ad350.add ((x7_1).toNat * 3)).block, (ad350.add ((x7_1).toNat * 3)).off + 2, none⟩ = some (.slice A350_2 ((rd_T24 l0_2 x7_1).f2).length c350_2) ∧ w'.cell? (ad351.add ((x7_1).toNat * 3)) = some (.int .i64 ((rd_T24 l1_2 x7_1).f0)) ∧ w'.cell? ⟨(ad351.add ((x7_1).toNat * 3)).block, (ad351.add ((x7_1).toNat * 3)).off + 1, none⟩ = some (.int .i64 ((rd_T24 l1_2 x7_1).f1)) ∧ w'.cell? ⟨(ad351.add ((x7_1).toNat * 3)).block, (ad351.add ((x7_1).toNat * 3)).off + 2, none⟩ = some (.slice A351_2 ((rd_T24 l1_2 x7_1).f2).length c351_2)) (ds := []) #[false, false, false, false, false, false, false, false, false, false, false, false] (by kernel_rfl) rfl rfl ⟨(blk_cell BK346.out 0).trans rfl, (blk_cell BK346.out 1).trans rfl, (blk_cell BK346.out 2).trans rfl, (blk_cell BK347.out 0).trans rfl, (blk_cell BK347.out 1).trans rfl, (blk_cell BK347.out 2).trans rfl, ((HB.out.cell (World.block_lt_of_cell? w _ hw350_0)).trans hw350_0), ((HB.out.cell (World.block_lt_of_cell? w _ hw350_1)).trans hw350_1), ((HB.out.cell (World.block_lt_of_cell? w _ hw350_2)).trans hw350_2), ((HB.out.cell (World.block_lt_of_cell? w _ hw351_0)).trans hw351_0), ((HB.out.cell (World.block_lt_of_cell? w _ hw351_1)).trans hw351_1), ((HB.out.cell (World.block_lt_of_cell? w _ hw351_2)).trans hw351_2)⟩ (fun hHeld => ?_); refine with_tabW simplify_Compare.tab10 simplify_Compare.bits10 (fun HT_ HW_ => ?_)
            generalize wc.drew = w25 at BK346 BK347 HB HR350_2 HR351_2 hx350_0 hx350_1 hx350_2 hx351_0 hx351_1 hx351_2 hHeld ⊢
            refine pure_ (i := 0) (N := some 39) (v := ?_) (a' := ?_) #[true, false, false, false, false, false, false, false, false, false, false, false] rfl rfl (any_of HT_.out (by kernel_rfl)) (fun _ _ _ h => h) (Or.inl ⟨by rfl, ?_⟩) ?_ ?_
            rotate_left
            ·intro w'
             go_simp
             with_reducible rfl
            rotate_left
            ·simp only [Act.put, List.setIfInBounds_toArray, List.set_cons_zero, List.set_cons_succ, i64_w, i32_w]
             rfl
            refine pure_ (i := 2) (N := some 41) (v := ?_) (a' := ?_) #[true, false, true, false, false, false, false, false, false, false, false, false] rfl rfl (any_of HT_.out (by kernel_rfl)) (fun _ _ _ h => h) (Or.inl ⟨by rfl, ?_⟩) ?_ ?_
            rotate_left
            ·intro w'
             go_simp
             with_reducible rfl
            rotate_left
            ·simp only [Act.put, List.setIfInBounds_toArray, List.set_cons_zero, List.set_cons_succ, i64_w, i32_w]
             rfl
            refine pure_ (i := 5) (N := some 44) (v := ?_) (a' := ?_) #[true, false, true, false, false, true, false, false, false, false, false, false] rfl rfl (any_of HT_.out (by kernel_rfl)) (fun _ _ _ h => h) (Or.inl ⟨by rfl, ?_⟩) ?_ ?_
            rotate_left
            ·intro w'
             go_simp
             with_reducible rfl
            rotate_left
            ·simp only [Act.put, List.setIfInBounds_toArray, List.set_cons_zero, List.set_cons_succ, i64_w, i32_w]
             rfl
            refine pure_ (i := 7) (N := some 46) (v := ?_) (a' := ?_) #[true, false, true, false, false, true, false, true, false, false, false, false] rfl rfl (any_of HT_.out (by kernel_rfl)) (fun _ _ _ h => h) (Or.inl ⟨by rfl, ?_⟩) ?_ ?_
            rotate_left
            ·intro w'
             go_simp
             with_reducible rfl
            rotate_left
            ·simp only [Act.put, List.setIfInBounds_toArray, List.set_cons_zero, List.set_cons_succ, i64_w, i32_w]
             rfl
            refine take_ (i := 1) (N := some 40) (v := ?_) (a' := ?_) #[true, true, true, false, false, true, false, true, false, false, false, false] rfl rfl (take_ofW HT_.out HW_.out (by kernel_rfl)) (fun _ _ _ h => h) (Or.inl ⟨by rfl, ?_⟩) hHeld ?_ ?_
            rotate_left
            ·rintro w' ⟨s0, s1, s2, s3, s4, s5, s6, s7, s8, s9, s10, s11⟩
             go_simp
             with_reducible rfl
            rotate_left
            ·simp only [Act.put, List.setIfInBounds_toArray, List.set_cons_zero, List.set_cons_succ, i64_w, i32_w]
             rfl
            refine pure_ (i := 3) (N := some 42) (v := ?_) (a' := ?_) #[true, true, true, true, false, true, false, true, false, false, false, false] rfl rfl (any_of HT_.out (by kernel_rfl)) (fun _ _ _ h => h) (Or.inl ⟨by rfl, ?_⟩) ?_ ?_
            rotate_left
            ·intro w'
             go_simp
             with_reducible rfl
            rotate_left
            ·simp only [Act.put, List.setIfInBounds_toArray, List.set_cons_zero, List.set_cons_succ, i64_w, i32_w]
             rfl
            refine take_ (i := 4) (N := some 43) (v := ?_) (a' := ?_) #[true, true, true, true, true, true, false, true, false, false, false, false] rfl rfl (take_ofW HT_.out HW_.out (by kernel_rfl)) (fun _ _ _ h => h) (Or.inl ⟨by rfl, ?_⟩) hHeld ?_ ?_
            rotate_left
            ·rintro w' ⟨s0, s1, s2, s3, s4, s5, s6, s7, s8, s9, s10, s11⟩
             go_simp
             with_reducible rfl
            rotate_left
            ·simp only [Act.put, List.setIfInBounds_toArray, List.set_cons_zero, List.set_cons_succ, i64_w, i32_w]
             rfl
            refine take_ (i := 6) (N := some 45) (v := ?_) (a' := ?_) #[true, true, true, true, true, true, true, true, false, false, false, false] rfl rfl (take_ofW HT_.out HW_.out (by kernel_rfl)) (fun _ _ _ h => h) (Or.inl ⟨by rfl, ?_⟩) hHeld ?_ ?_
            rotate_left
            ·rintro w' ⟨s0, s1, s2, s3, s4, s5, s6, s7, s8, s9, s10, s11⟩
             go_simp
             with_reducible rfl
            rotate_left
            ·simp only [Act.put, List.setIfInBounds_toArray, List.set_cons_zero, List.set_cons_succ, i64_w, i32_w]
             rfl
            refine pure_ (i := 8) (N := some 47) (v := ?_) (a' := ?_) #[true, true, true, true, true, true, true, true, true, false, false, false] rfl rfl (any_of HT_.out (by kernel_rfl)) (fun _ _ _ h => h) (Or.inl ⟨by rfl, ?_⟩) ?_ ?_
            rotate_left
            ·intro w'
             go_simp
             with_reducible rfl
            rotate_left
            ·simp only [Act.put, List.setIfInBounds_toArray, List.set_cons_zero, List.set_cons_succ, i64_w, i32_w]
             rfl
            refine take_ (i := 9) (N := some 48) (v := ?_) (a' := ?_) #[true, true, true, true, true, true, true, true, true, true, false, false] rfl rfl (take_ofW HT_.out HW_.out (by kernel_rfl)) (fun _ _ _ h => h) (Or.inl ⟨by rfl, ?_⟩) hHeld ?_ ?_
            rotate_left
            ·rintro w' ⟨s0, s1, s2, s3, s4, s5, s6, s7, s8, s9, s10, s11⟩
             go_simp
             with_reducible rfl
            rotate_left
            ·simp only [Act.put, List.setIfInBounds_toArray, List.set_cons_zero, List.set_cons_succ, i64_w, i32_w]
             rfl
            refine one_ (i := 10) (N := some 49) #[true, true, true, true, true, true, true, true, true, true, true, false] rfl rfl (one_of HT_.out (by kernel_rfl)) (by decide) (fun K hK => ?_)
            refine goes_ Try.func52 (by kernel_rfl) rfl #[.agg #[.int .i64 ((rd_T24 l0_2 x7_1).f0), .int .i64 ((rd_T24 l0_2 x7_1).f1), .slice A350_2 ((rd_T24 l0_2 x7_1).f2).length c350_2], .agg #[.int .i64 ((rd_T24 l1_2 x7_1).f0), .int .i64 ((rd_T24 l1_2 x7_1).f1), .slice A351_2 ((rd_T24 l1_2 x7_1).f2).length c351_2]] (by rfl) rfl rfl (by (try simp only [List.map_toArray, List.map_cons, List.map_nil]); first | done | rfl | (simp only [List.length_drop, List.length_take]; rfl)) ?_
            with_reducible refine (ih kj11 (by have := HK1.out; have := HJ11.out; omega) ((rd_T24 l0_2 x7_1).f0) ((rd_T24 l0_2 x7_1).f1) _ _ ((rd_T24 l0_2 x7_1).f2) ((rd_T24 l1_2 x7_1).f0) ((rd_T24 l1_2 x7_1).f1) _ _ ((rd_T24 l1_2 x7_1).f2) t352 _ ?side1 ?side2 ?side3 ?side4 A23.out).mono ?_
            (case side1 => repeat (first | exact (Kd.C_below HR350_2.out HB.out) | (with_reducible refine Kd.C_alloc ?_ _) | (with_reducible refine Kd.C_drewN ?_ _) | (with_reducible refine Kd.C_drew ?_)))
            (case side2 => exact HC350_2.out)
            (case side3 => repeat (first | exact (Kd.C_below HR351_2.out HB.out) | (with_reducible refine Kd.C_alloc ?_ _) | (with_reducible refine Kd.C_drewN ?_ _) | (with_reducible refine Kd.C_drew ?_)))
            (case side4 => exact HC351_2.out)
            rintro e w26 ⟨rfl, hb⟩
            refine ⟨_, rfl, ?_⟩
            have n0_ := Aside0.mk (blk_below (g := gb346) (o := .cells #[.int .i64 a0_0, .int .i64 a0_1, .slice (some ad350) l0_2.length c0_2] 24 (0, 0)) (bK) hb)
            have n1_ := Aside0.mk (blk_below (g := gb347) (o := .cells #[.int .i64 a1_0, .int .i64 a1_1, .slice (some ad351) l1_2.length c1_2] 24 (0, 0)) (bK) hb)
            have n2_ := Aside0.mk (below_step (bB) hb)
            clear BK346
            clear BK347
            clear HB
            have BK346 := n0_
            have BK347 := n1_
            have HB := n2_
            clear n0_ n1_ n2_
            (try clear hb)
            (try clear hb2)
            (try clear hk)
            (try clear hi)
            refine hK.out _ _ ⟨(blk_cell BK346.out 0).trans rfl, (blk_cell BK346.out 1).trans rfl, (blk_cell BK346.out 2).trans rfl, (blk_cell BK347.out 0).trans rfl, (blk_cell BK347.out 1).trans rfl, (blk_cell BK347.out 2).trans rfl, ((HB.out.cell (World.block_lt_of_cell? w _ hw350_0)).trans hw350_0), ((HB.out.cell (World.block_lt_of_cell? w _ hw350_1)).trans hw350_1), ((HB.out.cell (World.block_lt_of_cell? w _ hw350_2)).trans hw350_2), ((HB.out.cell (World.block_lt_of_cell? w _ hw351_0)).trans hw351_0), ((HB.out.cell (World.block_lt_of_cell? w _ hw351_1)).trans hw351_1), ((HB.out.cell (World.block_lt_of_cell? w _ hw351_2)).trans hw351_2)⟩ (fun hHeld => ?_)
            clear hK K
            refine norm_ (a' := ?_) ?_ ?_
            rotate_left
            ·show Act.put _ (some 49) _ = _
             simp only [Act.put, List.setIfInBounds_toArray, List.set_cons_zero, List.set_cons_succ, i64_w, i32_w]
             rfl
            refine pure_ (i := 11) (N := some 8) (v := ?_) (a' := ?_) #[true, true, true, true, true, true, true, true, true, true, true, true] rfl rfl (any_of HT_.out (by kernel_rfl)) (fun _ _ _ h => h) (Or.inl ⟨by rfl, ?_⟩) ?_ ?_
            rotate_left
            ·intro w'
             go_simp
             with_reducible rfl
            rotate_left
            ·simp only [Act.put, List.setIfInBounds_toArray, List.set_cons_zero, List.set_cons_succ, i64_w, i32_w]
             rfl
            refine done_ (done_of HT_.out (by kernel_rfl)) ?_
            try go_wp2
            (first | go_roundg kj11 | ((simp only [add_plain] at *); go_roundg kj11))
            case measure => have := HK1.out; have := HJ11.out; omega
            case rel => exact ⟨(wrap64 (x7_1 + 1)), (by first | rfl | (simp; done) | (simp [*]; done)), H', ⟨by have := HK1.out; have := HJ11.out; omega⟩, ⟨bK⟩, ⟨bK⟩, ⟨bB⟩⟩
           ·rw [if_neg c24] at H
            have c24b0 : (t352 == 0) = false := beq_eq_false_iff_ne.mpr c24
            have c24b1 : (t352 != 0) = true := bne_iff_ne.mpr c24
            obtain rfl := Option.some.inj H
            try go_wp2
            have n0_ := Aside0.mk (blk_drew BK346.out)
            have n1_ := Aside0.mk (blk_drew BK347.out)
            have n2_ := Aside0.mk (below_drew1 HB.out)
            clear BK346
            clear BK347
            clear HB
            have BK346 := n0_
            have BK347 := n1_
            have HB := n2_
            clear n0_ n1_ n2_
            have p350 : 0 ≤ (x7_1 : Int) := of_decide_eq_true (by first | (with_reducible assumption) | assumption)
            have q350 : x7_1 < (l0_2.length : Int) := of_decide_eq_true (by first | (with_reducible assumption) | assumption)
            obtain ⟨ad350, A350_2, c350_2, e350, hx350_0, hx350_1, hx350_2, hl350_2, hi350_2⟩ := at_T24 HR0_2.out x7_1 p350 q350
            have hw350_2 := hx350_2
            have hw350_1 := hx350_1
            have hw350_0 := hx350_0
            cases e350
            replace hx350_0 := (HB.out.cell (World.block_lt_of_cell? w _ hx350_0)).trans hx350_0
            replace hx350_1 := (HB.out.cell (World.block_lt_of_cell? w _ hx350_1)).trans hx350_1
            replace hx350_2 := (HB.out.cell (World.block_lt_of_cell? w _ hx350_2)).trans hx350_2
            have HR350_2 := Aside0.mk hi350_2
            have HC350_2 := Aside0.mk hl350_2
            clear hi350_2 hl350_2
            replace p350 := eq_true p350
            replace q350 := eq_true q350
            have p351 : 0 ≤ (x7_1 : Int) := of_decide_eq_true (by first | (with_reducible assumption) | assumption)
            have q351 : x7_1 < (l1_2.length : Int) := of_decide_eq_true (by first | (with_reducible assumption) | assumption)
            obtain ⟨ad351, A351_2, c351_2, e351, hx351_0, hx351_1, hx351_2, hl351_2, hi351_2⟩ := at_T24 HR1_2.out x7_1 p351 q351
            have hw351_2 := hx351_2
            have hw351_1 := hx351_1
            have hw351_0 := hx351_0
            cases e351
            replace hx351_0 := (HB.out.cell (World.block_lt_of_cell? w _ hx351_0)).trans hx351_0
            replace hx351_1 := (HB.out.cell (World.block_lt_of_cell? w _ hx351_1)).trans hx351_1
            replace hx351_2 := (HB.out.cell (World.block_lt_of_cell? w _ hx351_2)).trans hx351_2
            have HR351_2 := Aside0.mk hi351_2
            have HC351_2 := Aside0.mk hl351_2
            clear hi351_2 hl351_2
            replace p351 := eq_true p351
            replace q351 := eq_true q351
            refine start_ (n := 12) (S := fun w' => w'.cell? ⟨gb346, 0, none⟩ = some (.int .i64 a0_0) ∧ w'.cell? ⟨gb346, 1, none⟩ = some (.int .i64 a0_1) ∧ w'.cell? ⟨gb346, 2, none⟩ = some (.slice (some ad350) l0_2.length c0_2) ∧ w'.cell? ⟨gb347, 0, none⟩ = some (.int .i64 a1_0) ∧ w'.cell? ⟨gb347, 1, none⟩ = some (.int .i64 a1_1) ∧ w'.cell? ⟨gb347, 2, none⟩ = some (.slice (some ad351) l1_2.length c1_2) ∧ w'.cell? (ad350.add ((x7_1).toNat * 3)) = some (.int .i64 ((rd_T24 l0_2 x7_1).f0)) ∧ w'.cell? ⟨(ad350.add ((x7_1).toNat * 3)).block, (ad350.add ((x7_1).toNat * 3)).off + 1, none⟩ = some (.int .i64 ((rd_T24 l0_2 x7_1).f1)) ∧ w'.cell? ⟨(ad350.add ((x7_1).toNat * 3)).block, (ad350.add ((x7_1).toNat * 3)).off + 2, none⟩ = some (.slice A350_2 ((rd_T24 l0_2 x7_1).f2).length c350_2) ∧ w'.cell? (ad351.add ((x7_1).toNat * 3)) = some (.int .i64 ((rd_T24 l1_2 x7_1).f0)) ∧ w'.cell? ⟨(ad351.add ((x7_1).toNat * 3)).block, (ad351.add ((x7_1).toNat * 3)).off + 1, none⟩ = some (.int .i64 ((rd_T24 l1_2 x7_1).f1)) ∧ w'.cell? ⟨(ad351.add ((x7_1).toNat * 3)).block, (ad351.add ((x7_1).toNat * 3)).off + 2, none⟩ = some (.slice A351_2 ((rd_T24 l1_2 x7_1).f2).length c351_2)) (ds := []) #[false, false, false, false, false, false, false, false, false, false, false, false] (by kernel_rfl) rfl rfl ⟨(blk_cell BK346.out 0).trans rfl, (blk_cell BK346.out 1).trans rfl, (blk_cell BK346.out 2).trans rfl, (blk_cell BK347.out 0).trans rfl, (blk_cell BK347.out 1).trans rfl, (blk_cell BK347.out 2).trans rfl, ((HB.out.cell (World.block_lt_of_cell? w _ hw350_0)).trans hw350_0), ((HB.out.cell (World.block_lt_of_cell? w _ hw350_1)).trans hw350_1), ((HB.out.cell (World.block_lt_of_cell? w _ hw350_2)).trans hw350_2), ((HB.out.cell (World.block_lt_of_cell? w _ hw351_0)).trans hw351_0), ((HB.out.cell (World.block_lt_of_cell? w _ hw351_1)).trans hw351_1), ((HB.out.cell (World.block_lt_of_cell? w _ hw351_2)).trans hw351_2)⟩ (fun hHeld => ?_); refine with_tabW simplify_Compare.tab10 simplify_Compare.bits10 (fun HT_ HW_ => ?_)
            generalize wc.drew = w27 at BK346 BK347 HB HR350_2 HR351_2 hx350_0 hx350_1 hx350_2 hx351_0 hx351_1 hx351_2 hHeld ⊢
            refine pure_ (i := 0) (N := some 39) (v := ?_) (a' := ?_) #[true, false, false, false, false, false, false, false, false, false, false, false] rfl rfl (any_of HT_.out (by kernel_rfl)) (fun _ _ _ h => h) (Or.inl ⟨by rfl, ?_⟩) ?_ ?_
            rotate_left
            ·intro w'
             go_simp
             with_reducible rfl
            rotate_left
            ·simp only [Act.put, List.setIfInBounds_toArray, List.set_cons_zero, List.set_cons_succ, i64_w, i32_w]
             rfl
            refine pure_ (i := 2) (N := some 41) (v := ?_) (a' := ?_) #[true, false, true, false, false, false, false, false, false, false, false, false] rfl rfl (any_of HT_.out (by kernel_rfl)) (fun _ _ _ h => h) (Or.inl ⟨by rfl, ?_⟩) ?_ ?_
            rotate_left
            ·intro w'
             go_simp
             with_reducible rfl
            rotate_left
            ·simp only [Act.put, List.setIfInBounds_toArray, List.set_cons_zero, List.set_cons_succ, i64_w, i32_w]
             rfl
            refine pure_ (i := 5) (N := some 44) (v := ?_) (a' := ?_) #[true, false, true, false, false, true, false, false, false, false, false, false] rfl rfl (any_of HT_.out (by kernel_rfl)) (fun _ _ _ h => h) (Or.inl ⟨by rfl, ?_⟩) ?_ ?_
            rotate_left
            ·intro w'
             go_simp
             with_reducible rfl
            rotate_left
            ·simp only [Act.put, List.setIfInBounds_toArray, List.set_cons_zero, List.set_cons_succ, i64_w, i32_w]
             rfl
            refine pure_ (i := 7) (N := some 46) (v := ?_) (a' := ?_) #[true, false, true, false, false, true, false, true, false, false, false, false] rfl rfl (any_of HT_.out (by kernel_rfl)) (fun _ _ _ h => h) (Or.inl ⟨by rfl, ?_⟩) ?_ ?_
            rotate_left
            ·intro w'
             go_simp
             with_reducible rfl
            rotate_left
            ·simp only [Act.put, List.setIfInBounds_toArray, List.set_cons_zero, List.set_cons_succ, i64_w, i32_w]
             rfl
            refine take_ (i := 1) (N := some 40) (v := ?_) (a' := ?_) #[true, true, true, false, false, true, false, true, false, false, false, false] rfl rfl (take_ofW HT_.out HW_.out (by kernel_rfl)) (fun _ _ _ h => h) (Or.inl ⟨by rfl, ?_⟩) hHeld ?_ ?_
            rotate_left
            ·rintro w' ⟨s0, s1, s2, s3, s4, s5, s6, s7, s8, s9, s10, s11⟩
             go_simp
             with_reducible rfl
            rotate_left
            ·simp only [Act.put, List.setIfInBounds_toArray, List.set_cons_zero, List.set_cons_succ, i64_w, i32_w]
             rfl
            refine pure_ (i := 3) (N := some 42) (v := ?_) (a' := ?_) #[true, true, true, true, false, true, false, true, false, false, false, false] rfl rfl (any_of HT_.out (by kernel_rfl)) (fun _ _ _ h => h) (Or.inl ⟨by rfl, ?_⟩) ?_ ?_
            rotate_left
            ·intro w'
             go_simp
             with_reducible rfl
            rotate_left
            ·simp only [Act.put, List.setIfInBounds_toArray, List.set_cons_zero, List.set_cons_succ, i64_w, i32_w]
             rfl
            refine take_ (i := 4) (N := some 43) (v := ?_) (a' := ?_) #[true, true, true, true, true, true, false, true, false, false, false, false] rfl rfl (take_ofW HT_.out HW_.out (by kernel_rfl)) (fun _ _ _ h => h) (Or.inl ⟨by rfl, ?_⟩) hHeld ?_ ?_
            rotate_left
            ·rintro w' ⟨s0, s1, s2, s3, s4, s5, s6, s7, s8, s9, s10, s11⟩
             go_simp
             with_reducible rfl
            rotate_left
            ·simp only [Act.put, List.setIfInBounds_toArray, List.set_cons_zero, List.set_cons_succ, i64_w, i32_w]
             rfl
            refine take_ (i := 6) (N := some 45) (v := ?_) (a' := ?_) #[true, true, true, true, true, true, true, true, false, false, false, false] rfl rfl (take_ofW HT_.out HW_.out (by kernel_rfl)) (fun _ _ _ h => h) (Or.inl ⟨by rfl, ?_⟩) hHeld ?_ ?_
            rotate_left
            ·rintro w' ⟨s0, s1, s2, s3, s4, s5, s6, s7, s8, s9, s10, s11⟩
             go_simp
             with_reducible rfl
            rotate_left
            ·simp only [Act.put, List.setIfInBounds_toArray, List.set_cons_zero, List.set_cons_succ, i64_w, i32_w]
             rfl
            refine pure_ (i := 8) (N := some 47) (v := ?_) (a' := ?_) #[true, true, true, true, true, true, true, true, true, false, false, false] rfl rfl (any_of HT_.out (by kernel_rfl)) (fun _ _ _ h => h) (Or.inl ⟨by rfl, ?_⟩) ?_ ?_
            rotate_left
            ·intro w'
             go_simp
             with_reducible rfl
            rotate_left
            ·simp only [Act.put, List.setIfInBounds_toArray, List.set_cons_zero, List.set_cons_succ, i64_w, i32_w]
             rfl
            refine take_ (i := 9) (N := some 48) (v := ?_) (a' := ?_) #[true, true, true, true, true, true, true, true, true, true, false, false] rfl rfl (take_ofW HT_.out HW_.out (by kernel_rfl)) (fun _ _ _ h => h) (Or.inl ⟨by rfl, ?_⟩) hHeld ?_ ?_
            rotate_left
            ·rintro w' ⟨s0, s1, s2, s3, s4, s5, s6, s7, s8, s9, s10, s11⟩
             go_simp
             with_reducible rfl
            rotate_left
            ·simp only [Act.put, List.setIfInBounds_toArray, List.set_cons_zero, List.set_cons_succ, i64_w, i32_w]
             rfl
            refine one_ (i := 10) (N := some 49) #[true, true, true, true, true, true, true, true, true, true, true, false] rfl rfl (one_of HT_.out (by kernel_rfl)) (by decide) (fun K hK => ?_)
            refine goes_ Try.func52 (by kernel_rfl) rfl #[.agg #[.int .i64 ((rd_T24 l0_2 x7_1).f0), .int .i64 ((rd_T24 l0_2 x7_1).f1), .slice A350_2 ((rd_T24 l0_2 x7_1).f2).length c350_2], .agg #[.int .i64 ((rd_T24 l1_2 x7_1).f0), .int .i64 ((rd_T24 l1_2 x7_1).f1), .slice A351_2 ((rd_T24 l1_2 x7_1).f2).length c351_2]] (by rfl) rfl rfl (by (try simp only [List.map_toArray, List.map_cons, List.map_nil]); first | done | rfl | (simp only [List.length_drop, List.length_take]; rfl)) ?_
            with_reducible refine (ih kj11 (by have := HK1.out; have := HJ11.out; omega) ((rd_T24 l0_2 x7_1).f0) ((rd_T24 l0_2 x7_1).f1) _ _ ((rd_T24 l0_2 x7_1).f2) ((rd_T24 l1_2 x7_1).f0) ((rd_T24 l1_2 x7_1).f1) _ _ ((rd_T24 l1_2 x7_1).f2) t352 _ ?side1 ?side2 ?side3 ?side4 A23.out).mono ?_
            (case side1 => repeat (first | exact (Kd.C_below HR350_2.out HB.out) | (with_reducible refine Kd.C_alloc ?_ _) | (with_reducible refine Kd.C_drewN ?_ _) | (with_reducible refine Kd.C_drew ?_)))
            (case side2 => exact HC350_2.out)
            (case side3 => repeat (first | exact (Kd.C_below HR351_2.out HB.out) | (with_reducible refine Kd.C_alloc ?_ _) | (with_reducible refine Kd.C_drewN ?_ _) | (with_reducible refine Kd.C_drew ?_)))
            (case side4 => exact HC351_2.out)
            rintro e w28 ⟨rfl, hb⟩
            refine ⟨_, rfl, ?_⟩
            have n0_ := Aside0.mk (blk_below (g := gb346) (o := .cells #[.int .i64 a0_0, .int .i64 a0_1, .slice (some ad350) l0_2.length c0_2] 24 (0, 0)) (bK) hb)
            have n1_ := Aside0.mk (blk_below (g := gb347) (o := .cells #[.int .i64 a1_0, .int .i64 a1_1, .slice (some ad351) l1_2.length c1_2] 24 (0, 0)) (bK) hb)
            have n2_ := Aside0.mk (below_step (bB) hb)
            clear BK346
            clear BK347
            clear HB
            have BK346 := n0_
            have BK347 := n1_
            have HB := n2_
            clear n0_ n1_ n2_
            (try clear hb)
            (try clear hb2)
            (try clear hk)
            (try clear hi)
            refine hK.out _ _ ⟨(blk_cell BK346.out 0).trans rfl, (blk_cell BK346.out 1).trans rfl, (blk_cell BK346.out 2).trans rfl, (blk_cell BK347.out 0).trans rfl, (blk_cell BK347.out 1).trans rfl, (blk_cell BK347.out 2).trans rfl, ((HB.out.cell (World.block_lt_of_cell? w _ hw350_0)).trans hw350_0), ((HB.out.cell (World.block_lt_of_cell? w _ hw350_1)).trans hw350_1), ((HB.out.cell (World.block_lt_of_cell? w _ hw350_2)).trans hw350_2), ((HB.out.cell (World.block_lt_of_cell? w _ hw351_0)).trans hw351_0), ((HB.out.cell (World.block_lt_of_cell? w _ hw351_1)).trans hw351_1), ((HB.out.cell (World.block_lt_of_cell? w _ hw351_2)).trans hw351_2)⟩ (fun hHeld => ?_)
            clear hK K
            refine norm_ (a' := ?_) ?_ ?_
            rotate_left
            ·show Act.put _ (some 49) _ = _
             simp only [Act.put, List.setIfInBounds_toArray, List.set_cons_zero, List.set_cons_succ, i64_w, i32_w]
             rfl
            refine pure_ (i := 11) (N := some 8) (v := ?_) (a' := ?_) #[true, true, true, true, true, true, true, true, true, true, true, true] rfl rfl (any_of HT_.out (by kernel_rfl)) (fun _ _ _ h => h) (Or.inl ⟨by rfl, ?_⟩) ?_ ?_
            rotate_left
            ·intro w'
             go_simp
             with_reducible rfl
            rotate_left
            ·simp only [Act.put, List.setIfInBounds_toArray, List.set_cons_zero, List.set_cons_succ, i64_w, i32_w]
             rfl
            refine done_ (done_of HT_.out (by kernel_rfl)) ?_
            try go_wp2
            go_ret
            exact ⟨by first | rfl | (simp [errW_none, errW_some] <;> rfl) | (simp [*, errW_none, errW_some] <;> rfl), bB⟩
          ·rw [if_neg c22] at H
           exact absurd H (by simp)
         ·rw [if_neg c21] at H
          exact absurd H (by simp)
        ·rw [if_neg c20] at H
         exact absurd H (by simp)
       ·replace c19 := Bool.eq_false_iff.mpr c19
        subst c19
        have H1 : ((simplify_order.f (l0_2.length : Int) (l1_2.length : Int)).bind fun t353 => (some t353)) = some r := by rw [if_neg (show ¬ (false = true) by decide)] at H; exact H
        clear H
        have H := H1
        clear H1
        replace H := Option.bind_eq_some_iff.mp H
        obtain ⟨t353, A290, H⟩ := H
        replace H : (some t353) = some r := H
        have A29 := Aside0.mk A290
        clear A290
        obtain rfl := Option.some.inj H
        have hnb30 := NB346_347.out
        have hnc30 := NB347_346.out
        have hcz31_0 : wc.cell? ⟨gb346, 0, none⟩ = some (.int .i64 a0_0) := (blk_cell BK346.out 0).trans rfl
        have hcz31_1 : wc.cell? ⟨gb346, 1, none⟩ = some (.int .i64 a0_1) := (blk_cell BK346.out 1).trans rfl
        have hcz31_2 : wc.cell? ⟨gb346, 2, none⟩ = some (.slice A0_2 l0_2.length c0_2) := (blk_cell BK346.out 2).trans rfl
        have hfz31_0 := blk_frozen BK346.out 0
        have hfz31_1 := blk_frozen BK346.out 1
        have hfz31_2 := blk_frozen BK346.out 2
        have hcz32_0 : wc.cell? ⟨gb347, 0, none⟩ = some (.int .i64 a1_0) := (blk_cell BK347.out 0).trans rfl
        have hcz32_1 : wc.cell? ⟨gb347, 1, none⟩ = some (.int .i64 a1_1) := (blk_cell BK347.out 1).trans rfl
        have hcz32_2 : wc.cell? ⟨gb347, 2, none⟩ = some (.slice A1_2 l1_2.length c1_2) := (blk_cell BK347.out 2).trans rfl
        have hfz32_0 := blk_frozen BK347.out 0
        have hfz32_1 := blk_frozen BK347.out 1
        have hfz32_2 := blk_frozen BK347.out 2
        go_wp2_with (first | ((with_reducible refine gate_callee (f := 73) rfl ?_); refine goesL_ (some 59) rfl rfl Try.func73 (by kernel_rfl) rfl #[.int .i64 (l0_2.length : Int), .int .i64 (l1_2.length : Int)] rfl (by (try simp only [List.map_toArray, List.map_cons, List.map_nil]); first | done | rfl | (simp only [List.length_drop, List.length_take]; rfl) | (simp only [Int.ofNat_lt, Int.ofNat_le]; rfl)) ?_; (with_reducible refine (simplify_order.calls (l0_2.length : Int) (l1_2.length : Int) t353 _ A29.out).mono ?_); rintro e w' ⟨rfl, ⟨nd, rfl⟩⟩; refine ⟨_, rfl, ?_⟩))
        go_ret
        exact ⟨by first | rfl | (simp [errW_none, errW_some] <;> rfl) | (simp [*, errW_none, errW_some] <;> rfl), bB⟩
  ·rw [if_neg c6] at H
   have c6b0 : (t349 == 0) = false := beq_eq_false_iff_ne.mpr c6
   have c6b1 : (t349 != 0) = true := bne_iff_ne.mpr c6
   obtain rfl := Option.some.inj H
   go_enter Try.func52, Try.ntmps52
   go_wp2_with (first | ((with_reducible refine gate_dst (N := 2) rfl ?_); (try (refine gate_guard (by rfl) ?_; dsimp only)); refine box_event ?hg (N := 2) ?hd (cs := #[.int .i64 a0_0, .int .i64 a0_1, .slice A0_2 l0_2.length c0_2]) (t := 24) ?hr ?_; (case hd => rfl); (case hg => rfl); (case hr => first | (go_simp; done) | (go_simp; rfl)); intro gb346 hg w33 hbox hb; have n0_ := Aside0.mk (below_step (bB) hb); have n1_ := Aside0.mk (hbox); have n2_ := Aside0.mk ((by rw [hg]; exact (below_size (bB)) : w.heap.size ≤ gb346)); have n3_ := Aside0.mk ((by rw [hg]; exact (below_size (bB)) : w.heap.size ≤ gb346)); clear HB; have HB := n0_; have BK346 := n1_; have GW346 := n2_; have GE346 := n3_; clear n0_ n1_ n2_ n3_; clear hb hbox hg) | ((with_reducible refine gate_dst (N := 3) rfl ?_); (try (refine gate_guard (by rfl) ?_; dsimp only)); refine box_event ?hg (N := 3) ?hd (cs := #[.int .i64 a1_0, .int .i64 a1_1, .slice A1_2 l1_2.length c1_2]) (t := 24) ?hr ?_; (case hd => rfl); (case hg => rfl); (case hr => first | (go_simp; done) | (go_simp; rfl)); intro gb347 hg w34 hbox hb; have n0_ := Aside0.mk (blk_below (g := gb346) (o := .cells #[.int .i64 a0_0, .int .i64 a0_1, .slice A0_2 l0_2.length c0_2] 24 (0, 0)) (bK) hb); have n1_ := Aside0.mk (below_step (bB) hb); have n2_ := Aside0.mk (hbox); have n3_ := Aside0.mk ((by rw [hg]; exact (below_size (bB)) : w.heap.size ≤ gb347)); have n4_ := Aside0.mk ((by rw [hg]; exact (below_size (bB)) : w.heap.size ≤ gb347)); have n5_ := Aside0.mk ((by rw [hg]; exact Nat.ne_of_lt (blk_lt (g := gb346) (o := .cells #[.int .i64 a0_0, .int .i64 a0_1, .slice A0_2 l0_2.length c0_2] 24 (0, 0)) (bK)) : gb346 ≠ gb347)); have n6_ := Aside0.mk ((by rw [hg]; exact Nat.ne_of_gt (blk_lt (g := gb346) (o := .cells #[.int .i64 a0_0, .int .i64 a0_1, .slice A0_2 l0_2.length c0_2] 24 (0, 0)) (bK)) : gb347 ≠ gb346)); clear BK346; clear HB; have BK346 := n0_; have HB := n1_; have BK347 := n2_; have GW347 := n3_; have GE347 := n4_; have NB346_347 := n5_; have NB347_346 := n6_; clear n0_ n1_ n2_ n3_ n4_ n5_ n6_; clear hb hbox hg; have hnb35 := NB346_347.out; have hnc35 := NB347_346.out; have hcz36_0 : w34.cell? ⟨gb346, 0, none⟩ = some (.int .i64 a0_0) := (blk_cell BK346.out 0).trans rfl; have hcz36_1 : w34.cell? ⟨gb346, 1, none⟩ = some (.int .i64 a0_1) := (blk_cell BK346.out 1).trans rfl; have hcz36_2 : w34.cell? ⟨gb346, 2, none⟩ = some (.slice A0_2 l0_2.length c0_2) := (blk_cell BK346.out 2).trans rfl; have hfz36_0 := blk_frozen BK346.out 0; have hfz36_1 := blk_frozen BK346.out 1; have hfz36_2 := blk_frozen BK346.out 2; have hcz37_0 : w34.cell? ⟨gb347, 0, none⟩ = some (.int .i64 a1_0) := (blk_cell BK347.out 0).trans rfl; have hcz37_1 : w34.cell? ⟨gb347, 1, none⟩ = some (.int .i64 a1_1) := (blk_cell BK347.out 1).trans rfl; have hcz37_2 : w34.cell? ⟨gb347, 2, none⟩ = some (.slice A1_2 l1_2.length c1_2) := (blk_cell BK347.out 2).trans rfl; have hfz37_0 := blk_frozen BK347.out 0; have hfz37_1 := blk_frozen BK347.out 1; have hfz37_2 := blk_frozen BK347.out 2) | ((with_reducible refine gate_callee (f := 73) rfl ?_); refine goesL_ (some 13) rfl rfl Try.func73 (by kernel_rfl) rfl #[.int .i64 a0_0, .int .i64 a1_0] rfl (by (try simp only [List.map_toArray, List.map_cons, List.map_nil]); first | done | rfl | (simp only [List.length_drop, List.length_take]; rfl) | (simp only [Int.ofNat_lt, Int.ofNat_le]; rfl)) ?_; (with_reducible refine (simplify_order.calls a0_0 a1_0 t348 _ A3.out).mono ?_); rintro e w' ⟨rfl, ⟨nd, rfl⟩⟩; refine ⟨_, rfl, ?_⟩) | ((with_reducible refine gate_callee (f := 73) rfl ?_); refine goesL_ (some 21) rfl rfl Try.func73 (by kernel_rfl) rfl #[.int .i64 a0_1, .int .i64 a1_1] rfl (by (try simp only [List.map_toArray, List.map_cons, List.map_nil]); first | done | rfl | (simp only [List.length_drop, List.length_take]; rfl) | (simp only [Int.ofNat_lt, Int.ofNat_le]; rfl)) ?_; (with_reducible refine (simplify_order.calls a0_1 a1_1 t349 _ A5.out).mono ?_); rintro e w' ⟨rfl, ⟨nd, rfl⟩⟩; refine ⟨_, rfl, ?_⟩))
   go_ret
   exact ⟨by first | rfl | (simp [errW_none, errW_some] <;> rfl) | (simp [*, errW_none, errW_some] <;> rfl), bB⟩
 ·rw [if_neg c4] at H
  have c4b0 : (t348 == 0) = false := beq_eq_false_iff_ne.mpr c4
  have c4b1 : (t348 != 0) = true := bne_iff_ne.mpr c4
  obtain rfl := Option.some.inj H
  go_enter Try.func52, Try.ntmps52
  go_wp2_with (first | ((with_reducible refine gate_dst (N := 2) rfl ?_); (try (refine gate_guard (by rfl) ?_; dsimp only)); refine box_event ?hg (N := 2) ?hd (cs := #[.int .i64 a0_0, .int .i64 a0_1, .slice A0_2 l0_2.length c0_2]) (t := 24) ?hr ?_; (case hd => rfl); (case hg => rfl); (case hr => first | (go_simp; done) | (go_simp; rfl)); intro gb346 hg w38 hbox hb; have n0_ := Aside0.mk (below_step (bB) hb); have n1_ := Aside0.mk (hbox); have n2_ := Aside0.mk ((by rw [hg]; exact (below_size (bB)) : w.heap.size ≤ gb346)); have n3_ := Aside0.mk ((by rw [hg]; exact (below_size (bB)) : w.heap.size ≤ gb346)); clear HB; have HB := n0_; have BK346 := n1_; have GW346 := n2_; have GE346 := n3_; clear n0_ n1_ n2_ n3_; clear hb hbox hg) | ((with_reducible refine gate_dst (N := 3) rfl ?_); (try (refine gate_guard (by rfl) ?_; dsimp only)); refine box_event ?hg (N := 3) ?hd (cs := #[.int .i64 a1_0, .int .i64 a1_1, .slice A1_2 l1_2.length c1_2]) (t := 24) ?hr ?_; (case hd => rfl); (case hg => rfl); (case hr => first | (go_simp; done) | (go_simp; rfl)); intro gb347 hg w39 hbox hb; have n0_ := Aside0.mk (blk_below (g := gb346) (o := .cells #[.int .i64 a0_0, .int .i64 a0_1, .slice A0_2 l0_2.length c0_2] 24 (0, 0)) (bK) hb); have n1_ := Aside0.mk (below_step (bB) hb); have n2_ := Aside0.mk (hbox); have n3_ := Aside0.mk ((by rw [hg]; exact (below_size (bB)) : w.heap.size ≤ gb347)); have n4_ := Aside0.mk ((by rw [hg]; exact (below_size (bB)) : w.heap.size ≤ gb347)); have n5_ := Aside0.mk ((by rw [hg]; exact Nat.ne_of_lt (blk_lt (g := gb346) (o := .cells #[.int .i64 a0_0, .int .i64 a0_1, .slice A0_2 l0_2.length c0_2] 24 (0, 0)) (bK)) : gb346 ≠ gb347)); have n6_ := Aside0.mk ((by rw [hg]; exact Nat.ne_of_gt (blk_lt (g := gb346) (o := .cells #[.int .i64 a0_0, .int .i64 a0_1, .slice A0_2 l0_2.length c0_2] 24 (0, 0)) (bK)) : gb347 ≠ gb346)); clear BK346; clear HB; have BK346 := n0_; have HB := n1_; have BK347 := n2_; have GW347 := n3_; have GE347 := n4_; have NB346_347 := n5_; have NB347_346 := n6_; clear n0_ n1_ n2_ n3_ n4_ n5_ n6_; clear hb hbox hg; have hnb40 := NB346_347.out; have hnc40 := NB347_346.out; have hcz41_0 : w39.cell? ⟨gb346, 0, none⟩ = some (.int .i64 a0_0) := (blk_cell BK346.out 0).trans rfl; have hcz41_1 : w39.cell? ⟨gb346, 1, none⟩ = some (.int .i64 a0_1) := (blk_cell BK346.out 1).trans rfl; have hcz41_2 : w39.cell? ⟨gb346, 2, none⟩ = some (.slice A0_2 l0_2.length c0_2) := (blk_cell BK346.out 2).trans rfl; have hfz41_0 := blk_frozen BK346.out 0; have hfz41_1 := blk_frozen BK346.out 1; have hfz41_2 := blk_frozen BK346.out 2; have hcz42_0 : w39.cell? ⟨gb347, 0, none⟩ = some (.int .i64 a1_0) := (blk_cell BK347.out 0).trans rfl; have hcz42_1 : w39.cell? ⟨gb347, 1, none⟩ = some (.int .i64 a1_1) := (blk_cell BK347.out 1).trans rfl; have hcz42_2 : w39.cell? ⟨gb347, 2, none⟩ = some (.slice A1_2 l1_2.length c1_2) := (blk_cell BK347.out 2).trans rfl; have hfz42_0 := blk_frozen BK347.out 0; have hfz42_1 := blk_frozen BK347.out 1; have hfz42_2 := blk_frozen BK347.out 2) | ((with_reducible refine gate_callee (f := 73) rfl ?_); refine goesL_ (some 13) rfl rfl Try.func73 (by kernel_rfl) rfl #[.int .i64 a0_0, .int .i64 a1_0] rfl (by (try simp only [List.map_toArray, List.map_cons, List.map_nil]); first | done | rfl | (simp only [List.length_drop, List.length_take]; rfl) | (simp only [Int.ofNat_lt, Int.ofNat_le]; rfl)) ?_; (with_reducible refine (simplify_order.calls a0_0 a1_0 t348 _ A3.out).mono ?_); rintro e w' ⟨rfl, ⟨nd, rfl⟩⟩; refine ⟨_, rfl, ?_⟩))
  go_ret
  exact ⟨by first | rfl | (simp [errW_none, errW_some] <;> rfl) | (simp [*, errW_none, errW_some] <;> rfl), bB⟩
end Go.Proofs.Ytjofkebiacaciaa.PAll
end
section
namespace Go.Proofs.Ytjofkebiacaciaa.PAll
open Go.RowKit Go.Proofs.YtjofkebiacaciaaW.PrintWords Go.Proofs.YtjofkebiacaciaaW.PrintLast Go.Proofs.YtjofkebiacaciaaW.PrintMore
attribute [local go_sem] max2_int min2_int max_two min_two max_three min_three max_four min_four
set_option linter.unusedVariables false
set_option linter.unusedSimpArgs false
def expr_Compare.f (k : Nat) (a0_0 : Int) (a0_1 : Int) (l0_2 : List (S24)) (a1_0 : Int) (a1_1 : Int) (l1_2 : List (S24)) : Option (Int) := (simplify_Compare.f k a0_0 a0_1 l0_2 a1_0 a1_1 l1_2).bind fun t356 => (some t356)
theorem expr_Compare.mono : ∀ a0 a1 a2 a3 a4 a5 k, LeO (expr_Compare.f k a0 a1 a2 a3 a4 a5) (expr_Compare.f (k + 1) a0 a1 a2 a3 a4 a5) := by
 intro a0 a1 a2 a3 a4 a5 k
 unfold expr_Compare.f
 repeat' first
   | (with_reducible exact simplify_Compare.mono _ _ _ _ _ _ _)
   | (with_reducible exact LeO.refl _)
   | (with_reducible exact LeO.none _)
   | (with_reducible refine LeO.ite ?_ ?_)
   | (with_reducible refine LeO.bind ?_ (fun _ => ?_))
   | exact simplify_Compare.mono _ _ _ _ _ _ _
   | exact LeO.none _
   | refine LeO.ite ?_ ?_
   | refine LeO.bind ?_ (fun _ => ?_)
set_option maxHeartbeats 8000000 in
set_option maxRecDepth 100000 in
theorem expr_Compare.calls (k : Nat) (a0_0 : Int) (a0_1 : Int) (A0_2 : Option Addr) (c0_2 : Nat) (l0_2 : List (S24)) (a1_0 : Int) (a1_1 : Int) (A1_2 : Option Addr) (c1_2 : Nat) (l1_2 : List (S24)) (r : Int) (w : World) (hr0_2 : Kd.C k24 w A0_2 l0_2.length l0_2) (hc0_2 : l0_2.length ≤ c0_2) (hr1_2 : Kd.C k24 w A1_2 l1_2.length l1_2) (hc1_2 : l1_2.length ≤ c1_2) (h : expr_Compare.f k a0_0 a0_1 l0_2 a1_0 a1_1 l1_2 = some r) :
  Calls Try.prog 23 #[.agg #[.int .i64 a0_0, .int .i64 a0_1, .slice A0_2 l0_2.length c0_2], .agg #[.int .i64 a1_0, .int .i64 a1_1, .slice A1_2 l1_2.length c1_2]] w fun e w' => e = .returned (.int .i64 r) ∧ Below w.heap.size w w' := by
 have hu24 := Try.underlying24
 have HR0_2 := Aside0.mk hr0_2
 have HC0_2 := Aside0.mk hc0_2
 clear hr0_2 hc0_2
 have HR1_2 := Aside0.mk hr1_2
 have HC1_2 := Aside0.mk hc1_2
 clear hr1_2 hc1_2
 have HB := Aside0.mk (Below.refl w.heap.size w)
 have H : ((simplify_Compare.f k a0_0 a0_1 l0_2 a1_0 a1_1 l1_2).bind fun t356 => (some t356)) = some r := h
 clear h
 replace H := Option.bind_eq_some_iff.mp H
 obtain ⟨t356, A30, H⟩ := H
 replace H : (some t356) = some r := H
 have A3 := Aside0.mk A30
 clear A30
 obtain rfl := Option.some.inj H
 go_enter Try.func23, Try.ntmps23
 go_wp2_with (first | ((with_reducible refine gate_dst (N := 2) rfl ?_); refine box_event ?hg (N := 2) ?hd (cs := #[.int .i64 a0_0, .int .i64 a0_1, .slice A0_2 l0_2.length c0_2]) (t := 24) ?hr ?_; (case hd => rfl); (case hg => rfl); (case hr => first | (go_simp; done) | (go_simp; rfl)); intro gb354 hg w4 hbox hb; have n0_ := Aside0.mk (below_step (bB) hb); have n1_ := Aside0.mk (hbox); have n2_ := Aside0.mk ((by rw [hg]; exact (below_size (bB)) : w.heap.size ≤ gb354)); have n3_ := Aside0.mk ((by rw [hg]; exact (below_size (bB)) : w.heap.size ≤ gb354)); clear HB; have HB := n0_; have BK354 := n1_; have GW354 := n2_; have GE354 := n3_; clear n0_ n1_ n2_ n3_; clear hb hbox hg) | ((with_reducible refine gate_dst (N := 3) rfl ?_); refine box_event ?hg (N := 3) ?hd (cs := #[.int .i64 a1_0, .int .i64 a1_1, .slice A1_2 l1_2.length c1_2]) (t := 24) ?hr ?_; (case hd => rfl); (case hg => rfl); (case hr => first | (go_simp; done) | (go_simp; rfl)); intro gb355 hg w5 hbox hb; have n0_ := Aside0.mk (blk_below (g := gb354) (o := .cells #[.int .i64 a0_0, .int .i64 a0_1, .slice A0_2 l0_2.length c0_2] 24 (0, 0)) (bK) hb); have n1_ := Aside0.mk (below_step (bB) hb); have n2_ := Aside0.mk (hbox); have n3_ := Aside0.mk ((by rw [hg]; exact (below_size (bB)) : w.heap.size ≤ gb355)); have n4_ := Aside0.mk ((by rw [hg]; exact (below_size (bB)) : w.heap.size ≤ gb355)); have n5_ := Aside0.mk ((by rw [hg]; exact Nat.ne_of_lt (blk_lt (g := gb354) (o := .cells #[.int .i64 a0_0, .int .i64 a0_1, .slice A0_2 l0_2.length c0_2] 24 (0, 0)) (bK)) : gb354 ≠ gb355)); have n6_ := Aside0.mk ((by rw [hg]; exact Nat.ne_of_gt (blk_lt (g := gb354) (o := .cells #[.int .i64 a0_0, .int .i64 a0_1, .slice A0_2 l0_2.length c0_2] 24 (0, 0)) (bK)) : gb355 ≠ gb354)); clear BK354; clear HB; have BK354 := n0_; have HB := n1_; have BK355 := n2_; have GW355 := n3_; have GE355 := n4_; have NB354_355 := n5_; have NB355_354 := n6_; clear n0_ n1_ n2_ n3_ n4_ n5_ n6_; clear hb hbox hg; have hnb6 := NB354_355.out; have hnc6 := NB355_354.out; have hcz7_0 : w5.cell? ⟨gb354, 0, none⟩ = some (.int .i64 a0_0) := (blk_cell BK354.out 0).trans rfl; have hcz7_1 : w5.cell? ⟨gb354, 1, none⟩ = some (.int .i64 a0_1) := (blk_cell BK354.out 1).trans rfl; have hcz7_2 : w5.cell? ⟨gb354, 2, none⟩ = some (.slice A0_2 l0_2.length c0_2) := (blk_cell BK354.out 2).trans rfl; have hfz7_0 := blk_frozen BK354.out 0; have hfz7_1 := blk_frozen BK354.out 1; have hfz7_2 := blk_frozen BK354.out 2; have hcz8_0 : w5.cell? ⟨gb355, 0, none⟩ = some (.int .i64 a1_0) := (blk_cell BK355.out 0).trans rfl; have hcz8_1 : w5.cell? ⟨gb355, 1, none⟩ = some (.int .i64 a1_1) := (blk_cell BK355.out 1).trans rfl; have hcz8_2 : w5.cell? ⟨gb355, 2, none⟩ = some (.slice A1_2 l1_2.length c1_2) := (blk_cell BK355.out 2).trans rfl; have hfz8_0 := blk_frozen BK355.out 0; have hfz8_1 := blk_frozen BK355.out 1; have hfz8_2 := blk_frozen BK355.out 2) | ((with_reducible refine gate_callee (f := 52) rfl ?_); refine goesL_ (some 7) rfl rfl Try.func52 (by kernel_rfl) rfl #[.agg #[.int .i64 a0_0, .int .i64 a0_1, .slice A0_2 l0_2.length c0_2], .agg #[.int .i64 a1_0, .int .i64 a1_1, .slice A1_2 l1_2.length c1_2]] rfl (by (try simp only [List.map_toArray, List.map_cons, List.map_nil]); first | done | rfl | (simp only [List.length_drop, List.length_take]; rfl) | (simp only [Int.ofNat_lt, Int.ofNat_le]; rfl)) ?_; (with_reducible refine (simplify_Compare.calls k a0_0 a0_1 _ _ l0_2 a1_0 a1_1 _ _ l1_2 t356 _ ?side1 ?side2 ?side3 ?side4 A3.out).mono ?_); (case side1 => repeat (first | exact (Kd.C_below HR0_2.out HB.out) | (with_reducible refine Kd.C_alloc ?_ _) | (with_reducible refine Kd.C_drewN ?_ _) | (with_reducible refine Kd.C_drew ?_))); (case side2 => exact HC0_2.out); (case side3 => repeat (first | exact (Kd.C_below HR1_2.out HB.out) | (with_reducible refine Kd.C_alloc ?_ _) | (with_reducible refine Kd.C_drewN ?_ _) | (with_reducible refine Kd.C_drew ?_))); (case side4 => exact HC1_2.out); rintro e w9 ⟨rfl, hb⟩; refine ⟨_, rfl, ?_⟩; have n0_ := Aside0.mk (blk_below (g := gb354) (o := .cells #[.int .i64 a0_0, .int .i64 a0_1, .slice A0_2 l0_2.length c0_2] 24 (0, 0)) (bK) hb); have n1_ := Aside0.mk (blk_below (g := gb355) (o := .cells #[.int .i64 a1_0, .int .i64 a1_1, .slice A1_2 l1_2.length c1_2] 24 (0, 0)) (bK) hb); have n2_ := Aside0.mk (below_step (bB) hb); clear BK354; clear BK355; clear HB; have BK354 := n0_; have BK355 := n1_; have HB := n2_; clear n0_ n1_ n2_; (try clear hb); (try clear hb2); (try clear hk); (try clear hi)))
 go_ret
 exact ⟨by first | rfl | (simp [errW_none, errW_some] <;> rfl) | (simp [*, errW_none, errW_some] <;> rfl), bB⟩
end Go.Proofs.Ytjofkebiacaciaa.PAll
end
section
namespace Go.Proofs.Ytjofkebiacaciaa.PAll
open Go.RowKit Go.Proofs.YtjofkebiacaciaaW.PrintWords Go.Proofs.YtjofkebiacaciaaW.PrintLast Go.Proofs.YtjofkebiacaciaaW.PrintMore
attribute [local go_sem] max2_int min2_int max_two min_two max_three min_three max_four min_four
set_option linter.unusedVariables false
set_option linter.unusedSimpArgs false
def semigrouplaw04_ExprCompares.j0 : Nat → Int → Bool → Int → Int → List (S24) → Int → Int → List (S24) → Int → Int → List (S24) → Option (Bool)
 | 0, _, _, _, _, _, _, _, _, _, _, _ => none
 | k + 1, x7, x29, x358000, x358001, x358002, x359000, x359001, x359002, x360000, x360001, x360002 => if x29 = true then (some false) else (if x7 ≤ 0 then ((expr_Compare.f k x359000 x359001 x359002 x360000 x360001 x360002).bind fun t364 => (if t364 ≤ 0 then ((expr_Compare.f k x358000 x358001 x358002 x360000 x360001 x360002).bind fun t365 => (if t365 > 0 then (some false) else ((semigrouplaw04_awake.f k).bind fun t366 => (some t366)))) else ((semigrouplaw04_awake.f k).bind fun t367 => (some t367)))) else ((semigrouplaw04_awake.f k).bind fun t368 => (some t368)))
def semigrouplaw04_ExprCompares.f (k : Nat) (a0_0 : Int) (a0_1 : Int) (l0_2 : List (S24)) (a1_0 : Int) (a1_1 : Int) (l1_2 : List (S24)) (a2_0 : Int) (a2_1 : Int) (l2_2 : List (S24)) : Option (Bool) := (expr_Compare.f k a0_0 a0_1 l0_2 a1_0 a1_1 l1_2).bind fun t360 => ((semigroupref04_Compare.f k a0_0 a0_1 l0_2 a1_0 a1_1 l1_2).bind fun t361 => (if t360 = t361 then ((expr_Compare.f k a1_0 a1_1 l1_2 a0_0 a0_1 l0_2).bind fun t362 => (if t362 = (wrap64 (-t360)) then ((expr_Compare.f k a0_0 a0_1 l0_2 a0_0 a0_1 l0_2).bind fun t363 => (semigrouplaw04_ExprCompares.j0 k t360 (t363 != 0) a0_0 a0_1 l0_2 a1_0 a1_1 l1_2 a2_0 a2_1 l2_2)) else (semigrouplaw04_ExprCompares.j0 k t360 true a0_0 a0_1 l0_2 a1_0 a1_1 l1_2 a2_0 a2_1 l2_2))) else (semigrouplaw04_ExprCompares.j0 k t360 true a0_0 a0_1 l0_2 a1_0 a1_1 l1_2 a2_0 a2_1 l2_2)))
theorem semigrouplaw04_ExprCompares.mono_l : ∀ k, (∀ y0 y1 y2 y3 y4 y5 y6 y7 y8 y9 y10, LeO (semigrouplaw04_ExprCompares.j0 k y0 y1 y2 y3 y4 y5 y6 y7 y8 y9 y10) (semigrouplaw04_ExprCompares.j0 (k + 1) y0 y1 y2 y3 y4 y5 y6 y7 y8 y9 y10))
 | 0 => fun _ _ _ _ _ _ _ _ _ _ _ r h => by simp [semigrouplaw04_ExprCompares.j0] at h
 | k + 1 => by
  have ih0 := semigrouplaw04_ExprCompares.mono_l k
  ·intro y0 y1 y2 y3 y4 y5 y6 y7 y8 y9 y10
   unfold semigrouplaw04_ExprCompares.j0
   repeat' first
   | (with_reducible exact ih0 _ _ _ _ _ _ _ _ _ _ _)
   | (with_reducible exact expr_Compare.mono _ _ _ _ _ _ _)
   | (with_reducible exact semigrouplaw04_awake.mono _)
   | (with_reducible exact semigroupref04_Compare.mono _ _ _ _ _ _ _)
   | (with_reducible exact LeO.refl _)
   | (with_reducible exact LeO.none _)
   | (with_reducible refine LeO.ite ?_ ?_)
   | (with_reducible refine LeO.bind ?_ (fun _ => ?_))
   | exact ih0 _ _ _ _ _ _ _ _ _ _ _
   | exact expr_Compare.mono _ _ _ _ _ _ _
   | exact semigrouplaw04_awake.mono _
   | exact semigroupref04_Compare.mono _ _ _ _ _ _ _
   | exact LeO.none _
   | refine LeO.ite ?_ ?_
   | refine LeO.bind ?_ (fun _ => ?_)
theorem semigrouplaw04_ExprCompares.mono : ∀ a0 a1 a2 a3 a4 a5 a6 a7 a8 k, LeO (semigrouplaw04_ExprCompares.f k a0 a1 a2 a3 a4 a5 a6 a7 a8) (semigrouplaw04_ExprCompares.f (k + 1) a0 a1 a2 a3 a4 a5 a6 a7 a8) := by
 intro a0 a1 a2 a3 a4 a5 a6 a7 a8 k
 have ih0 := semigrouplaw04_ExprCompares.mono_l k
 unfold semigrouplaw04_ExprCompares.f
 repeat' first
   | (with_reducible exact ih0 _ _ _ _ _ _ _ _ _ _ _)
   | (with_reducible exact expr_Compare.mono _ _ _ _ _ _ _)
   | (with_reducible exact semigrouplaw04_awake.mono _)
   | (with_reducible exact semigroupref04_Compare.mono _ _ _ _ _ _ _)
   | (with_reducible exact LeO.refl _)
   | (with_reducible exact LeO.none _)
   | (with_reducible refine LeO.ite ?_ ?_)
   | (with_reducible refine LeO.bind ?_ (fun _ => ?_))
   | exact ih0 _ _ _ _ _ _ _ _ _ _ _
   | exact expr_Compare.mono _ _ _ _ _ _ _
   | exact semigrouplaw04_awake.mono _
   | exact semigroupref04_Compare.mono _ _ _ _ _ _ _
   | exact LeO.none _
   | refine LeO.ite ?_ ?_
   | refine LeO.bind ?_ (fun _ => ?_)
set_option maxHeartbeats 8000000 in
set_option maxRecDepth 100000 in
theorem semigrouplaw04_ExprCompares.calls (k : Nat) (a0_0 : Int) (a0_1 : Int) (A0_2 : Option Addr) (c0_2 : Nat) (l0_2 : List (S24)) (a1_0 : Int) (a1_1 : Int) (A1_2 : Option Addr) (c1_2 : Nat) (l1_2 : List (S24)) (a2_0 : Int) (a2_1 : Int) (A2_2 : Option Addr) (c2_2 : Nat) (l2_2 : List (S24)) (r : Bool) (w : World) (hr0_2 : Kd.C k24 w A0_2 l0_2.length l0_2) (hc0_2 : l0_2.length ≤ c0_2) (hr1_2 : Kd.C k24 w A1_2 l1_2.length l1_2) (hc1_2 : l1_2.length ≤ c1_2) (hr2_2 : Kd.C k24 w A2_2 l2_2.length l2_2) (hc2_2 : l2_2.length ≤ c2_2) (h : semigrouplaw04_ExprCompares.f k a0_0 a0_1 l0_2 a1_0 a1_1 l1_2 a2_0 a2_1 l2_2 = some r) :
  Calls Try.prog 6 #[.agg #[.int .i64 a0_0, .int .i64 a0_1, .slice A0_2 l0_2.length c0_2], .agg #[.int .i64 a1_0, .int .i64 a1_1, .slice A1_2 l1_2.length c1_2], .agg #[.int .i64 a2_0, .int .i64 a2_1, .slice A2_2 l2_2.length c2_2]] w fun e w' => e = .returned (.bool r) ∧ Below w.heap.size w w' := by
 have hu24 := Try.underlying24
 have HR0_2 := Aside0.mk hr0_2
 have HC0_2 := Aside0.mk hc0_2
 clear hr0_2 hc0_2
 have HR1_2 := Aside0.mk hr1_2
 have HC1_2 := Aside0.mk hc1_2
 clear hr1_2 hc1_2
 have HR2_2 := Aside0.mk hr2_2
 have HC2_2 := Aside0.mk hc2_2
 clear hr2_2 hc2_2
 have HB := Aside0.mk (Below.refl w.heap.size w)
 have H : ((expr_Compare.f k a0_0 a0_1 l0_2 a1_0 a1_1 l1_2).bind fun t360 => ((semigroupref04_Compare.f k a0_0 a0_1 l0_2 a1_0 a1_1 l1_2).bind fun t361 => (if t360 = t361 then ((expr_Compare.f k a1_0 a1_1 l1_2 a0_0 a0_1 l0_2).bind fun t362 => (if t362 = (wrap64 (-t360)) then ((expr_Compare.f k a0_0 a0_1 l0_2 a0_0 a0_1 l0_2).bind fun t363 => (semigrouplaw04_ExprCompares.j0 k t360 (t363 != 0) a0_0 a0_1 l0_2 a1_0 a1_1 l1_2 a2_0 a2_1 l2_2)) else (semigrouplaw04_ExprCompares.j0 k t360 true a0_0 a0_1 l0_2 a1_0 a1_1 l1_2 a2_0 a2_1 l2_2))) else (semigrouplaw04_ExprCompares.j0 k t360 true a0_0 a0_1 l0_2 a1_0 a1_1 l1_2 a2_0 a2_1 l2_2)))) = some r := h
 clear h
 replace H := Option.bind_eq_some_iff.mp H
 obtain ⟨t360, A40, H⟩ := H
 replace H : ((semigroupref04_Compare.f k a0_0 a0_1 l0_2 a1_0 a1_1 l1_2).bind fun t361 => (if t360 = t361 then ((expr_Compare.f k a1_0 a1_1 l1_2 a0_0 a0_1 l0_2).bind fun t362 => (if t362 = (wrap64 (-t360)) then ((expr_Compare.f k a0_0 a0_1 l0_2 a0_0 a0_1 l0_2).bind fun t363 => (semigrouplaw04_ExprCompares.j0 k t360 (t363 != 0) a0_0 a0_1 l0_2 a1_0 a1_1 l1_2 a2_0 a2_1 l2_2)) else (semigrouplaw04_ExprCompares.j0 k t360 true a0_0 a0_1 l0_2 a1_0 a1_1 l1_2 a2_0 a2_1 l2_2))) else (semigrouplaw04_ExprCompares.j0 k t360 true a0_0 a0_1 l0_2 a1_0 a1_1 l1_2 a2_0 a2_1 l2_2))) = some r := H
 have A4 := Aside0.mk A40
 clear A40
 have HC5 := Aside0.mk H
 clear H
 go_enter Try.func6, Try.ntmps6
 go_upto_region 2 with (first | ((with_reducible refine gate_dst (N := 3) rfl ?_); refine box_event ?hg (N := 3) ?hd (cs := #[.int .i64 a0_0, .int .i64 a0_1, .slice A0_2 l0_2.length c0_2]) (t := 24) ?hr ?_; (case hd => rfl); (case hg => rfl); (case hr => first | (go_simp; done) | (go_simp; rfl)); intro gb357 hg w6 hbox hb; have n0_ := Aside0.mk (below_step (bB) hb); have n1_ := Aside0.mk (hbox); have n2_ := Aside0.mk ((by rw [hg]; exact (below_size (bB)) : w.heap.size ≤ gb357)); have n3_ := Aside0.mk ((by rw [hg]; exact (below_size (bB)) : w.heap.size ≤ gb357)); clear HB; have HB := n0_; have BK357 := n1_; have GW357 := n2_; have GE357 := n3_; clear n0_ n1_ n2_ n3_; clear hb hbox hg) | ((with_reducible refine gate_dst (N := 4) rfl ?_); refine box_event ?hg (N := 4) ?hd (cs := #[.int .i64 a1_0, .int .i64 a1_1, .slice A1_2 l1_2.length c1_2]) (t := 24) ?hr ?_; (case hd => rfl); (case hg => rfl); (case hr => first | (go_simp; done) | (go_simp; rfl)); intro gb358 hg w7 hbox hb; have n0_ := Aside0.mk (blk_below (g := gb357) (o := .cells #[.int .i64 a0_0, .int .i64 a0_1, .slice A0_2 l0_2.length c0_2] 24 (0, 0)) (bK) hb); have n1_ := Aside0.mk (below_step (bB) hb); have n2_ := Aside0.mk (hbox); have n3_ := Aside0.mk ((by rw [hg]; exact (below_size (bB)) : w.heap.size ≤ gb358)); have n4_ := Aside0.mk ((by rw [hg]; exact (below_size (bB)) : w.heap.size ≤ gb358)); have n5_ := Aside0.mk ((by rw [hg]; exact Nat.ne_of_lt (blk_lt (g := gb357) (o := .cells #[.int .i64 a0_0, .int .i64 a0_1, .slice A0_2 l0_2.length c0_2] 24 (0, 0)) (bK)) : gb357 ≠ gb358)); have n6_ := Aside0.mk ((by rw [hg]; exact Nat.ne_of_gt (blk_lt (g := gb357) (o := .cells #[.int .i64 a0_0, .int .i64 a0_1, .slice A0_2 l0_2.length c0_2] 24 (0, 0)) (bK)) : gb358 ≠ gb357)); clear BK357; clear HB; have BK357 := n0_; have HB := n1_; have BK358 := n2_; have GW358 := n3_; have GE358 := n4_; have NB357_358 := n5_; have NB358_357 := n6_; clear n0_ n1_ n2_ n3_ n4_ n5_ n6_; clear hb hbox hg) | ((with_reducible refine gate_dst (N := 5) rfl ?_); refine box_event ?hg (N := 5) ?hd (cs := #[.int .i64 a2_0, .int .i64 a2_1, .slice A2_2 l2_2.length c2_2]) (t := 24) ?hr ?_; (case hd => rfl); (case hg => rfl); (case hr => first | (go_simp; done) | (go_simp; rfl)); intro gb359 hg w8 hbox hb; have n0_ := Aside0.mk (blk_below (g := gb357) (o := .cells #[.int .i64 a0_0, .int .i64 a0_1, .slice A0_2 l0_2.length c0_2] 24 (0, 0)) (bK) hb); have n1_ := Aside0.mk (blk_below (g := gb358) (o := .cells #[.int .i64 a1_0, .int .i64 a1_1, .slice A1_2 l1_2.length c1_2] 24 (0, 0)) (bK) hb); have n2_ := Aside0.mk (below_step (bB) hb); have n3_ := Aside0.mk (hbox); have n4_ := Aside0.mk ((by rw [hg]; exact (below_size (bB)) : w.heap.size ≤ gb359)); have n5_ := Aside0.mk ((by rw [hg]; exact (below_size (bB)) : w.heap.size ≤ gb359)); have n6_ := Aside0.mk ((by rw [hg]; exact Nat.ne_of_lt (blk_lt (g := gb357) (o := .cells #[.int .i64 a0_0, .int .i64 a0_1, .slice A0_2 l0_2.length c0_2] 24 (0, 0)) (bK)) : gb357 ≠ gb359)); have n7_ := Aside0.mk ((by rw [hg]; exact Nat.ne_of_gt (blk_lt (g := gb357) (o := .cells #[.int .i64 a0_0, .int .i64 a0_1, .slice A0_2 l0_2.length c0_2] 24 (0, 0)) (bK)) : gb359 ≠ gb357)); have n8_ := Aside0.mk ((by rw [hg]; exact Nat.ne_of_lt (blk_lt (g := gb358) (o := .cells #[.int .i64 a1_0, .int .i64 a1_1, .slice A1_2 l1_2.length c1_2] 24 (0, 0)) (bK)) : gb358 ≠ gb359)); have n9_ := Aside0.mk ((by rw [hg]; exact Nat.ne_of_gt (blk_lt (g := gb358) (o := .cells #[.int .i64 a1_0, .int .i64 a1_1, .slice A1_2 l1_2.length c1_2] 24 (0, 0)) (bK)) : gb359 ≠ gb358)); clear BK357; clear BK358; clear HB; have BK357 := n0_; have BK358 := n1_; have HB := n2_; have BK359 := n3_; have GW359 := n4_; have GE359 := n5_; have NB357_359 := n6_; have NB359_357 := n7_; have NB358_359 := n8_; have NB359_358 := n9_; clear n0_ n1_ n2_ n3_ n4_ n5_ n6_ n7_ n8_ n9_; clear hb hbox hg; have hnb9 := NB357_358.out; have hnc9 := NB358_357.out; have hnb10 := NB357_359.out; have hnc10 := NB359_357.out; have hcz11_0 : w8.cell? ⟨gb357, 0, none⟩ = some (.int .i64 a0_0) := (blk_cell BK357.out 0).trans rfl; have hcz11_1 : w8.cell? ⟨gb357, 1, none⟩ = some (.int .i64 a0_1) := (blk_cell BK357.out 1).trans rfl; have hcz11_2 : w8.cell? ⟨gb357, 2, none⟩ = some (.slice A0_2 l0_2.length c0_2) := (blk_cell BK357.out 2).trans rfl; have hfz11_0 := blk_frozen BK357.out 0; have hfz11_1 := blk_frozen BK357.out 1; have hfz11_2 := blk_frozen BK357.out 2; have hnb12 := NB358_359.out; have hnc12 := NB359_358.out; have hcz13_0 : w8.cell? ⟨gb358, 0, none⟩ = some (.int .i64 a1_0) := (blk_cell BK358.out 0).trans rfl; have hcz13_1 : w8.cell? ⟨gb358, 1, none⟩ = some (.int .i64 a1_1) := (blk_cell BK358.out 1).trans rfl; have hcz13_2 : w8.cell? ⟨gb358, 2, none⟩ = some (.slice A1_2 l1_2.length c1_2) := (blk_cell BK358.out 2).trans rfl; have hfz13_0 := blk_frozen BK358.out 0; have hfz13_1 := blk_frozen BK358.out 1; have hfz13_2 := blk_frozen BK358.out 2) | ((with_reducible refine gate_callee (f := 23) rfl ?_); refine goesL_ (some 10) rfl rfl Try.func23 (by kernel_rfl) rfl #[.agg #[.int .i64 a0_0, .int .i64 a0_1, .slice A0_2 l0_2.length c0_2], .agg #[.int .i64 a1_0, .int .i64 a1_1, .slice A1_2 l1_2.length c1_2]] rfl (by (try simp only [List.map_toArray, List.map_cons, List.map_nil]); first | done | rfl | (simp only [List.length_drop, List.length_take]; rfl) | (simp only [Int.ofNat_lt, Int.ofNat_le]; rfl)) ?_; (with_reducible refine (expr_Compare.calls k a0_0 a0_1 _ _ l0_2 a1_0 a1_1 _ _ l1_2 t360 _ ?side1 ?side2 ?side3 ?side4 A4.out).mono ?_); (case side1 => repeat (first | exact (Kd.C_below HR0_2.out HB.out) | (with_reducible refine Kd.C_alloc ?_ _) | (with_reducible refine Kd.C_drewN ?_ _) | (with_reducible refine Kd.C_drew ?_))); (case side2 => exact HC0_2.out); (case side3 => repeat (first | exact (Kd.C_below HR1_2.out HB.out) | (with_reducible refine Kd.C_alloc ?_ _) | (with_reducible refine Kd.C_drewN ?_ _) | (with_reducible refine Kd.C_drew ?_))); (case side4 => exact HC1_2.out); rintro e w14 ⟨rfl, hb⟩; refine ⟨_, rfl, ?_⟩; have n0_ := Aside0.mk (blk_below (g := gb357) (o := .cells #[.int .i64 a0_0, .int .i64 a0_1, .slice A0_2 l0_2.length c0_2] 24 (0, 0)) (bK) hb); have n1_ := Aside0.mk (blk_below (g := gb358) (o := .cells #[.int .i64 a1_0, .int .i64 a1_1, .slice A1_2 l1_2.length c1_2] 24 (0, 0)) (bK) hb); have n2_ := Aside0.mk (blk_below (g := gb359) (o := .cells #[.int .i64 a2_0, .int .i64 a2_1, .slice A2_2 l2_2.length c2_2] 24 (0, 0)) (bK) hb); have n3_ := Aside0.mk (below_step (bB) hb); clear BK357; clear BK358; clear BK359; clear HB; have BK357 := n0_; have BK358 := n1_; have BK359 := n2_; have HB := n3_; clear n0_ n1_ n2_ n3_; (try clear hb); (try clear hb2); (try clear hk); (try clear hi)))
 (try simp only [Act.put, List.setIfInBounds_toArray, List.set_cons_zero, List.set_cons_succ])
 go_cut [29] (fun v29 wc => ∃ (kq : Nat) (x29_4 : Bool), v29 = .bool x29_4 ∧ Aside0 (semigrouplaw04_ExprCompares.j0 kq t360 x29_4 a0_0 a0_1 l0_2 a1_0 a1_1 l1_2 a2_0 a2_1 l2_2 = some r) ∧ Aside0 (kq ≤ k) ∧ Aside0 (wc.heap[gb357]? = some (.cells #[.int .i64 a0_0, .int .i64 a0_1, (.slice A0_2 l0_2.length c0_2)] 24 (0, 0))) ∧ Aside0 (wc.heap[gb358]? = some (.cells #[.int .i64 a1_0, .int .i64 a1_1, (.slice A1_2 l1_2.length c1_2)] 24 (0, 0))) ∧ Aside0 (wc.heap[gb359]? = some (.cells #[.int .i64 a2_0, .int .i64 a2_1, (.slice A2_2 l2_2.length c2_2)] 24 (0, 0))) ∧ Aside0 (Below w.heap.size w wc))
 case first =>
  have H := HC5.out
  clear HC5
  replace H := Option.bind_eq_some_iff.mp H
  obtain ⟨t361, A150, H⟩ := H
  replace H : (if t360 = t361 then ((expr_Compare.f k a1_0 a1_1 l1_2 a0_0 a0_1 l0_2).bind fun t362 => (if t362 = (wrap64 (-t360)) then ((expr_Compare.f k a0_0 a0_1 l0_2 a0_0 a0_1 l0_2).bind fun t363 => (semigrouplaw04_ExprCompares.j0 k t360 (t363 != 0) a0_0 a0_1 l0_2 a1_0 a1_1 l1_2 a2_0 a2_1 l2_2)) else (semigrouplaw04_ExprCompares.j0 k t360 true a0_0 a0_1 l0_2 a1_0 a1_1 l1_2 a2_0 a2_1 l2_2))) else (semigrouplaw04_ExprCompares.j0 k t360 true a0_0 a0_1 l0_2 a1_0 a1_1 l1_2 a2_0 a2_1 l2_2)) = some r := H
  have A15 := Aside0.mk A150
  clear A150
  by_cases c16 : t360 = t361
  ·rw [if_pos c16] at H
   have c16b0 : (t360 == t361) = true := beq_iff_eq.mpr c16
   have c16b1 : (t360 != t361) = false := bne_eq_false_iff_eq.mpr c16
   clear c16
   (first | rw [c16b0] | (simp only [i64_w, i32_w]; rw [c16b0]) | skip)
   replace H := Option.bind_eq_some_iff.mp H
   obtain ⟨t362, A170, H⟩ := H
   replace H : (if t362 = (wrap64 (-t360)) then ((expr_Compare.f k a0_0 a0_1 l0_2 a0_0 a0_1 l0_2).bind fun t363 => (semigrouplaw04_ExprCompares.j0 k t360 (t363 != 0) a0_0 a0_1 l0_2 a1_0 a1_1 l1_2 a2_0 a2_1 l2_2)) else (semigrouplaw04_ExprCompares.j0 k t360 true a0_0 a0_1 l0_2 a1_0 a1_1 l1_2 a2_0 a2_1 l2_2)) = some r := H
   have A17 := Aside0.mk A170
   clear A170
   by_cases c18 : t362 = (wrap64 (-t360))
   ·rw [if_pos c18] at H
    have c18b0 : (t362 == (wrap64 (-t360))) = true := beq_iff_eq.mpr c18
    have c18b1 : (t362 != (wrap64 (-t360))) = false := bne_eq_false_iff_eq.mpr c18
    clear c18
    replace H := Option.bind_eq_some_iff.mp H
    obtain ⟨t363, A190, H⟩ := H
    replace H : (semigrouplaw04_ExprCompares.j0 k t360 (t363 != 0) a0_0 a0_1 l0_2 a1_0 a1_1 l1_2 a2_0 a2_1 l2_2) = some r := H
    have A19 := Aside0.mk A190
    clear A190
    have H' := Aside0.mk H
    clear H
    have hnb20 := NB357_358.out
    have hnc20 := NB358_357.out
    have hnb21 := NB357_359.out
    have hnc21 := NB359_357.out
    have hcz22_0 : w14.cell? ⟨gb357, 0, none⟩ = some (.int .i64 a0_0) := (blk_cell BK357.out 0).trans rfl
    have hcz22_1 : w14.cell? ⟨gb357, 1, none⟩ = some (.int .i64 a0_1) := (blk_cell BK357.out 1).trans rfl
    have hcz22_2 : w14.cell? ⟨gb357, 2, none⟩ = some (.slice A0_2 l0_2.length c0_2) := (blk_cell BK357.out 2).trans rfl
    have hfz22_0 := blk_frozen BK357.out 0
    have hfz22_1 := blk_frozen BK357.out 1
    have hfz22_2 := blk_frozen BK357.out 2
    have hnb23 := NB358_359.out
    have hnc23 := NB359_358.out
    have hcz24_0 : w14.cell? ⟨gb358, 0, none⟩ = some (.int .i64 a1_0) := (blk_cell BK358.out 0).trans rfl
    have hcz24_1 : w14.cell? ⟨gb358, 1, none⟩ = some (.int .i64 a1_1) := (blk_cell BK358.out 1).trans rfl
    have hcz24_2 : w14.cell? ⟨gb358, 2, none⟩ = some (.slice A1_2 l1_2.length c1_2) := (blk_cell BK358.out 2).trans rfl
    have hfz24_0 := blk_frozen BK358.out 0
    have hfz24_1 := blk_frozen BK358.out 1
    have hfz24_2 := blk_frozen BK358.out 2
    go_wp2_with (first | ((with_reducible refine gate_callee (f := 24) rfl ?_); refine goesL_ (some 14) rfl rfl Try.func24 (by kernel_rfl) rfl #[.agg #[.int .i64 a0_0, .int .i64 a0_1, .slice A0_2 l0_2.length c0_2], .agg #[.int .i64 a1_0, .int .i64 a1_1, .slice A1_2 l1_2.length c1_2]] rfl (by (try simp only [List.map_toArray, List.map_cons, List.map_nil]); first | done | rfl | (simp only [List.length_drop, List.length_take]; rfl) | (simp only [Int.ofNat_lt, Int.ofNat_le]; rfl)) ?_; (with_reducible refine (semigroupref04_Compare.calls k a0_0 a0_1 _ _ l0_2 a1_0 a1_1 _ _ l1_2 t361 _ ?side1 ?side2 ?side3 ?side4 A15.out).mono ?_); (case side1 => repeat (first | exact (Kd.C_below HR0_2.out HB.out) | (with_reducible refine Kd.C_alloc ?_ _) | (with_reducible refine Kd.C_drewN ?_ _) | (with_reducible refine Kd.C_drew ?_))); (case side2 => exact HC0_2.out); (case side3 => repeat (first | exact (Kd.C_below HR1_2.out HB.out) | (with_reducible refine Kd.C_alloc ?_ _) | (with_reducible refine Kd.C_drewN ?_ _) | (with_reducible refine Kd.C_drew ?_))); (case side4 => exact HC1_2.out); rintro e w25 ⟨rfl, hb⟩; refine ⟨_, rfl, ?_⟩; have n0_ := Aside0.mk (blk_below (g := gb357) (o := .cells #[.int .i64 a0_0, .int .i64 a0_1, .slice A0_2 l0_2.length c0_2] 24 (0, 0)) (bK) hb); have n1_ := Aside0.mk (blk_below (g := gb358) (o := .cells #[.int .i64 a1_0, .int .i64 a1_1, .slice A1_2 l1_2.length c1_2] 24 (0, 0)) (bK) hb); have n2_ := Aside0.mk (blk_below (g := gb359) (o := .cells #[.int .i64 a2_0, .int .i64 a2_1, .slice A2_2 l2_2.length c2_2] 24 (0, 0)) (bK) hb); have n3_ := Aside0.mk (below_step (bB) hb); clear BK357; clear BK358; clear BK359; clear HB; have BK357 := n0_; have BK358 := n1_; have BK359 := n2_; have HB := n3_; clear n0_ n1_ n2_ n3_; (try clear hb); (try clear hb2); (try clear hk); (try clear hi); have hcz26_0 : w25.cell? ⟨gb358, 0, none⟩ = some (.int .i64 a1_0) := (blk_cell BK358.out 0).trans rfl; have hcz26_1 : w25.cell? ⟨gb358, 1, none⟩ = some (.int .i64 a1_1) := (blk_cell BK358.out 1).trans rfl; have hcz26_2 : w25.cell? ⟨gb358, 2, none⟩ = some (.slice A1_2 l1_2.length c1_2) := (blk_cell BK358.out 2).trans rfl; have hfz26_0 := blk_frozen BK358.out 0; have hfz26_1 := blk_frozen BK358.out 1; have hfz26_2 := blk_frozen BK358.out 2; have hcz27_0 : w25.cell? ⟨gb357, 0, none⟩ = some (.int .i64 a0_0) := (blk_cell BK357.out 0).trans rfl; have hcz27_1 : w25.cell? ⟨gb357, 1, none⟩ = some (.int .i64 a0_1) := (blk_cell BK357.out 1).trans rfl; have hcz27_2 : w25.cell? ⟨gb357, 2, none⟩ = some (.slice A0_2 l0_2.length c0_2) := (blk_cell BK357.out 2).trans rfl; have hfz27_0 := blk_frozen BK357.out 0; have hfz27_1 := blk_frozen BK357.out 1; have hfz27_2 := blk_frozen BK357.out 2) | (go_at_call 23; (with_reducible refine (expr_Compare.calls k a1_0 a1_1 _ _ l1_2 a0_0 a0_1 _ _ l0_2 t362 _ ?side1 ?side2 ?side3 ?side4 A17.out).mono ?_); (case side1 => repeat (first | exact (Kd.C_below HR1_2.out HB.out) | (with_reducible refine Kd.C_alloc ?_ _) | (with_reducible refine Kd.C_drewN ?_ _) | (with_reducible refine Kd.C_drew ?_))); (case side2 => exact HC1_2.out); (case side3 => repeat (first | exact (Kd.C_below HR0_2.out HB.out) | (with_reducible refine Kd.C_alloc ?_ _) | (with_reducible refine Kd.C_drewN ?_ _) | (with_reducible refine Kd.C_drew ?_))); (case side4 => exact HC0_2.out); rintro e w28 ⟨rfl, hb⟩; have n0_ := Aside0.mk (blk_below (g := gb357) (o := .cells #[.int .i64 a0_0, .int .i64 a0_1, .slice A0_2 l0_2.length c0_2] 24 (0, 0)) (bK) hb); have n1_ := Aside0.mk (blk_below (g := gb358) (o := .cells #[.int .i64 a1_0, .int .i64 a1_1, .slice A1_2 l1_2.length c1_2] 24 (0, 0)) (bK) hb); have n2_ := Aside0.mk (blk_below (g := gb359) (o := .cells #[.int .i64 a2_0, .int .i64 a2_1, .slice A2_2 l2_2.length c2_2] 24 (0, 0)) (bK) hb); have n3_ := Aside0.mk (below_step (bB) hb); clear BK357; clear BK358; clear BK359; clear HB; have BK357 := n0_; have BK358 := n1_; have BK359 := n2_; have HB := n3_; clear n0_ n1_ n2_ n3_; (try clear hb); (try clear hb2); (try clear hk); (try clear hi); have hcz29_0 : w28.cell? ⟨gb357, 0, none⟩ = some (.int .i64 a0_0) := (blk_cell BK357.out 0).trans rfl; have hcz29_1 : w28.cell? ⟨gb357, 1, none⟩ = some (.int .i64 a0_1) := (blk_cell BK357.out 1).trans rfl; have hcz29_2 : w28.cell? ⟨gb357, 2, none⟩ = some (.slice A0_2 l0_2.length c0_2) := (blk_cell BK357.out 2).trans rfl; have hfz29_0 := blk_frozen BK357.out 0; have hfz29_1 := blk_frozen BK357.out 1; have hfz29_2 := blk_frozen BK357.out 2) | (go_at_call 23; (with_reducible refine (expr_Compare.calls k a0_0 a0_1 _ _ l0_2 a0_0 a0_1 _ _ l0_2 t363 _ ?side1 ?side2 ?side3 ?side4 A19.out).mono ?_); (case side1 => repeat (first | exact (Kd.C_below HR0_2.out HB.out) | (with_reducible refine Kd.C_alloc ?_ _) | (with_reducible refine Kd.C_drewN ?_ _) | (with_reducible refine Kd.C_drew ?_))); (case side2 => exact HC0_2.out); (case side3 => repeat (first | exact (Kd.C_below HR0_2.out HB.out) | (with_reducible refine Kd.C_alloc ?_ _) | (with_reducible refine Kd.C_drewN ?_ _) | (with_reducible refine Kd.C_drew ?_))); (case side4 => exact HC0_2.out); rintro e w30 ⟨rfl, hb⟩; have n0_ := Aside0.mk (blk_below (g := gb357) (o := .cells #[.int .i64 a0_0, .int .i64 a0_1, .slice A0_2 l0_2.length c0_2] 24 (0, 0)) (bK) hb); have n1_ := Aside0.mk (blk_below (g := gb358) (o := .cells #[.int .i64 a1_0, .int .i64 a1_1, .slice A1_2 l1_2.length c1_2] 24 (0, 0)) (bK) hb); have n2_ := Aside0.mk (blk_below (g := gb359) (o := .cells #[.int .i64 a2_0, .int .i64 a2_1, .slice A2_2 l2_2.length c2_2] 24 (0, 0)) (bK) hb); have n3_ := Aside0.mk (below_step (bB) hb); clear BK357; clear BK358; clear BK359; clear HB; have BK357 := n0_; have BK358 := n1_; have BK359 := n2_; have HB := n3_; clear n0_ n1_ n2_ n3_; (try clear hb); (try clear hb2); (try clear hk); (try clear hi)))
    go_meet
    case rel => exact ⟨_, ((t363 != 0)), (by first | rfl | (simp; done) | (simp [*]; done)), H', ⟨by first | omega | exact Nat.le_refl _⟩, ⟨bK⟩, ⟨bK⟩, ⟨bK⟩, ⟨bB⟩⟩
   ·rw [if_neg c18] at H
    have c18b0 : (t362 == (wrap64 (-t360))) = false := beq_eq_false_iff_ne.mpr c18
    have c18b1 : (t362 != (wrap64 (-t360))) = true := bne_iff_ne.mpr c18
    have H' := Aside0.mk H
    clear H
    have hnb31 := NB357_358.out
    have hnc31 := NB358_357.out
    have hnb32 := NB357_359.out
    have hnc32 := NB359_357.out
    have hcz33_0 : w14.cell? ⟨gb357, 0, none⟩ = some (.int .i64 a0_0) := (blk_cell BK357.out 0).trans rfl
    have hcz33_1 : w14.cell? ⟨gb357, 1, none⟩ = some (.int .i64 a0_1) := (blk_cell BK357.out 1).trans rfl
    have hcz33_2 : w14.cell? ⟨gb357, 2, none⟩ = some (.slice A0_2 l0_2.length c0_2) := (blk_cell BK357.out 2).trans rfl
    have hfz33_0 := blk_frozen BK357.out 0
    have hfz33_1 := blk_frozen BK357.out 1
    have hfz33_2 := blk_frozen BK357.out 2
    have hnb34 := NB358_359.out
    have hnc34 := NB359_358.out
    have hcz35_0 : w14.cell? ⟨gb358, 0, none⟩ = some (.int .i64 a1_0) := (blk_cell BK358.out 0).trans rfl
    have hcz35_1 : w14.cell? ⟨gb358, 1, none⟩ = some (.int .i64 a1_1) := (blk_cell BK358.out 1).trans rfl
    have hcz35_2 : w14.cell? ⟨gb358, 2, none⟩ = some (.slice A1_2 l1_2.length c1_2) := (blk_cell BK358.out 2).trans rfl
    have hfz35_0 := blk_frozen BK358.out 0
    have hfz35_1 := blk_frozen BK358.out 1
    have hfz35_2 := blk_frozen BK358.out 2
    go_wp2_with (first | ((with_reducible refine gate_callee (f := 24) rfl ?_); refine goesL_ (some 14) rfl rfl Try.func24 (by kernel_rfl) rfl #[.agg #[.int .i64 a0_0, .int .i64 a0_1, .slice A0_2 l0_2.length c0_2], .agg #[.int .i64 a1_0, .int .i64 a1_1, .slice A1_2 l1_2.length c1_2]] rfl (by (try simp only [List.map_toArray, List.map_cons, List.map_nil]); first | done | rfl | (simp only [List.length_drop, List.length_take]; rfl) | (simp only [Int.ofNat_lt, Int.ofNat_le]; rfl)) ?_; (with_reducible refine (semigroupref04_Compare.calls k a0_0 a0_1 _ _ l0_2 a1_0 a1_1 _ _ l1_2 t361 _ ?side1 ?side2 ?side3 ?side4 A15.out).mono ?_); (case side1 => repeat (first | exact (Kd.C_below HR0_2.out HB.out) | (with_reducible refine Kd.C_alloc ?_ _) | (with_reducible refine Kd.C_drewN ?_ _) | (with_reducible refine Kd.C_drew ?_))); (case side2 => exact HC0_2.out); (case side3 => repeat (first | exact (Kd.C_below HR1_2.out HB.out) | (with_reducible refine Kd.C_alloc ?_ _) | (with_reducible refine Kd.C_drewN ?_ _) | (with_reducible refine Kd.C_drew ?_))); (case side4 => exact HC1_2.out); rintro e w36 ⟨rfl, hb⟩; refine ⟨_, rfl, ?_⟩; have n0_ := Aside0.mk (blk_below (g := gb357) (o := .cells #[.int .i64 a0_0, .int .i64 a0_1, .slice A0_2 l0_2.length c0_2] 24 (0, 0)) (bK) hb); have n1_ := Aside0.mk (blk_below (g := gb358) (o := .cells #[.int .i64 a1_0, .int .i64 a1_1, .slice A1_2 l1_2.length c1_2] 24 (0, 0)) (bK) hb); have n2_ := Aside0.mk (blk_below (g := gb359) (o := .cells #[.int .i64 a2_0, .int .i64 a2_1, .slice A2_2 l2_2.length c2_2] 24 (0, 0)) (bK) hb); have n3_ := Aside0.mk (below_step (bB) hb); clear BK357; clear BK358; clear BK359; clear HB; have BK357 := n0_; have BK358 := n1_; have BK359 := n2_; have HB := n3_; clear n0_ n1_ n2_ n3_; (try clear hb); (try clear hb2); (try clear hk); (try clear hi); have hcz37_0 : w36.cell? ⟨gb358, 0, none⟩ = some (.int .i64 a1_0) := (blk_cell BK358.out 0).trans rfl; have hcz37_1 : w36.cell? ⟨gb358, 1, none⟩ = some (.int .i64 a1_1) := (blk_cell BK358.out 1).trans rfl; have hcz37_2 : w36.cell? ⟨gb358, 2, none⟩ = some (.slice A1_2 l1_2.length c1_2) := (blk_cell BK358.out 2).trans rfl; have hfz37_0 := blk_frozen BK358.out 0; have hfz37_1 := blk_frozen BK358.out 1; have hfz37_2 := blk_frozen BK358.out 2; have hcz38_0 : w36.cell? ⟨gb357, 0, none⟩ = some (.int .i64 a0_0) := (blk_cell BK357.out 0).trans rfl; have hcz38_1 : w36.cell? ⟨gb357, 1, none⟩ = some (.int .i64 a0_1) := (blk_cell BK357.out 1).trans rfl; have hcz38_2 : w36.cell? ⟨gb357, 2, none⟩ = some (.slice A0_2 l0_2.length c0_2) := (blk_cell BK357.out 2).trans rfl; have hfz38_0 := blk_frozen BK357.out 0; have hfz38_1 := blk_frozen BK357.out 1; have hfz38_2 := blk_frozen BK357.out 2) | (go_at_call 23; (with_reducible refine (expr_Compare.calls k a1_0 a1_1 _ _ l1_2 a0_0 a0_1 _ _ l0_2 t362 _ ?side1 ?side2 ?side3 ?side4 A17.out).mono ?_); (case side1 => repeat (first | exact (Kd.C_below HR1_2.out HB.out) | (with_reducible refine Kd.C_alloc ?_ _) | (with_reducible refine Kd.C_drewN ?_ _) | (with_reducible refine Kd.C_drew ?_))); (case side2 => exact HC1_2.out); (case side3 => repeat (first | exact (Kd.C_below HR0_2.out HB.out) | (with_reducible refine Kd.C_alloc ?_ _) | (with_reducible refine Kd.C_drewN ?_ _) | (with_reducible refine Kd.C_drew ?_))); (case side4 => exact HC0_2.out); rintro e w39 ⟨rfl, hb⟩; have n0_ := Aside0.mk (blk_below (g := gb357) (o := .cells #[.int .i64 a0_0, .int .i64 a0_1, .slice A0_2 l0_2.length c0_2] 24 (0, 0)) (bK) hb); have n1_ := Aside0.mk (blk_below (g := gb358) (o := .cells #[.int .i64 a1_0, .int .i64 a1_1, .slice A1_2 l1_2.length c1_2] 24 (0, 0)) (bK) hb); have n2_ := Aside0.mk (blk_below (g := gb359) (o := .cells #[.int .i64 a2_0, .int .i64 a2_1, .slice A2_2 l2_2.length c2_2] 24 (0, 0)) (bK) hb); have n3_ := Aside0.mk (below_step (bB) hb); clear BK357; clear BK358; clear BK359; clear HB; have BK357 := n0_; have BK358 := n1_; have BK359 := n2_; have HB := n3_; clear n0_ n1_ n2_ n3_; (try clear hb); (try clear hb2); (try clear hk); (try clear hi)))
    go_meet
    case rel => exact ⟨_, (true), (by first | rfl | (simp; done) | (simp [*]; done)), H', ⟨by first | omega | exact Nat.le_refl _⟩, ⟨bK⟩, ⟨bK⟩, ⟨bK⟩, ⟨bB⟩⟩
  ·rw [if_neg c16] at H
   have c16b0 : (t360 == t361) = false := beq_eq_false_iff_ne.mpr c16
   have c16b1 : (t360 != t361) = true := bne_iff_ne.mpr c16
   (first | rw [c16b0] | (simp only [i64_w, i32_w]; rw [c16b0]) | skip)
   have H' := Aside0.mk H
   clear H
   have hnb40 := NB357_358.out
   have hnc40 := NB358_357.out
   have hnb41 := NB357_359.out
   have hnc41 := NB359_357.out
   have hcz42_0 : w14.cell? ⟨gb357, 0, none⟩ = some (.int .i64 a0_0) := (blk_cell BK357.out 0).trans rfl
   have hcz42_1 : w14.cell? ⟨gb357, 1, none⟩ = some (.int .i64 a0_1) := (blk_cell BK357.out 1).trans rfl
   have hcz42_2 : w14.cell? ⟨gb357, 2, none⟩ = some (.slice A0_2 l0_2.length c0_2) := (blk_cell BK357.out 2).trans rfl
   have hfz42_0 := blk_frozen BK357.out 0
   have hfz42_1 := blk_frozen BK357.out 1
   have hfz42_2 := blk_frozen BK357.out 2
   have hnb43 := NB358_359.out
   have hnc43 := NB359_358.out
   have hcz44_0 : w14.cell? ⟨gb358, 0, none⟩ = some (.int .i64 a1_0) := (blk_cell BK358.out 0).trans rfl
   have hcz44_1 : w14.cell? ⟨gb358, 1, none⟩ = some (.int .i64 a1_1) := (blk_cell BK358.out 1).trans rfl
   have hcz44_2 : w14.cell? ⟨gb358, 2, none⟩ = some (.slice A1_2 l1_2.length c1_2) := (blk_cell BK358.out 2).trans rfl
   have hfz44_0 := blk_frozen BK358.out 0
   have hfz44_1 := blk_frozen BK358.out 1
   have hfz44_2 := blk_frozen BK358.out 2
   go_wp2_with (first | ((with_reducible refine gate_callee (f := 24) rfl ?_); refine goesL_ (some 14) rfl rfl Try.func24 (by kernel_rfl) rfl #[.agg #[.int .i64 a0_0, .int .i64 a0_1, .slice A0_2 l0_2.length c0_2], .agg #[.int .i64 a1_0, .int .i64 a1_1, .slice A1_2 l1_2.length c1_2]] rfl (by (try simp only [List.map_toArray, List.map_cons, List.map_nil]); first | done | rfl | (simp only [List.length_drop, List.length_take]; rfl) | (simp only [Int.ofNat_lt, Int.ofNat_le]; rfl)) ?_; (with_reducible refine (semigroupref04_Compare.calls k a0_0 a0_1 _ _ l0_2 a1_0 a1_1 _ _ l1_2 t361 _ ?side1 ?side2 ?side3 ?side4 A15.out).mono ?_); (case side1 => repeat (first | exact (Kd.C_below HR0_2.out HB.out) | (with_reducible refine Kd.C_alloc ?_ _) | (with_reducible refine Kd.C_drewN ?_ _) | (with_reducible refine Kd.C_drew ?_))); (case side2 => exact HC0_2.out); (case side3 => repeat (first | exact (Kd.C_below HR1_2.out HB.out) | (with_reducible refine Kd.C_alloc ?_ _) | (with_reducible refine Kd.C_drewN ?_ _) | (with_reducible refine Kd.C_drew ?_))); (case side4 => exact HC1_2.out); rintro e w45 ⟨rfl, hb⟩; refine ⟨_, rfl, ?_⟩; have n0_ := Aside0.mk (blk_below (g := gb357) (o := .cells #[.int .i64 a0_0, .int .i64 a0_1, .slice A0_2 l0_2.length c0_2] 24 (0, 0)) (bK) hb); have n1_ := Aside0.mk (blk_below (g := gb358) (o := .cells #[.int .i64 a1_0, .int .i64 a1_1, .slice A1_2 l1_2.length c1_2] 24 (0, 0)) (bK) hb); have n2_ := Aside0.mk (blk_below (g := gb359) (o := .cells #[.int .i64 a2_0, .int .i64 a2_1, .slice A2_2 l2_2.length c2_2] 24 (0, 0)) (bK) hb); have n3_ := Aside0.mk (below_step (bB) hb); clear BK357; clear BK358; clear BK359; clear HB; have BK357 := n0_; have BK358 := n1_; have BK359 := n2_; have HB := n3_; clear n0_ n1_ n2_ n3_; (try clear hb); (try clear hb2); (try clear hk); (try clear hi)))
   go_meet
   case rel => exact ⟨_, (true), (by first | rfl | (simp; done) | (simp [*]; done)), H', ⟨by first | omega | exact Nat.le_refl _⟩, ⟨bK⟩, ⟨bK⟩, ⟨bK⟩, ⟨bB⟩⟩
 case rest =>
  clear HC5
  try clear c1
  try clear c2
  try clear p2
  try clear c3
  try clear c4
  try clear c6
  try clear p6
  try clear c9
  try clear c10
  try clear c12
  try clear c16
  try clear c16b0
  try clear c16b1
  try clear c18
  try clear c18b0
  try clear c18b1
  try clear c20
  try clear c21
  try clear c23
  try clear c24
  try clear c31
  try clear c32
  try clear c34
  try clear c40
  try clear c41
  try clear c43
  try clear hcz11_0
  try clear hcz11_1
  try clear hcz11_2
  try clear hcz13_0
  try clear hcz13_1
  try clear hcz13_2
  try clear hcz22_0
  try clear hcz22_1
  try clear hcz22_2
  try clear hcz24_0
  try clear hcz24_1
  try clear hcz24_2
  try clear hcz26_0
  try clear hcz26_1
  try clear hcz26_2
  try clear hcz27_0
  try clear hcz27_1
  try clear hcz27_2
  try clear hcz29_0
  try clear hcz29_1
  try clear hcz29_2
  try clear hcz33_0
  try clear hcz33_1
  try clear hcz33_2
  try clear hcz35_0
  try clear hcz35_1
  try clear hcz35_2
  try clear hcz37_0
  try clear hcz37_1
  try clear hcz37_2
  try clear hcz38_0
  try clear hcz38_1
  try clear hcz38_2
  try clear hcz42_0
  try clear hcz42_1
  try clear hcz42_2
  try clear hcz44_0
  try clear hcz44_1
  try clear hcz44_2
  try clear hfz11_0
  try clear hfz11_1
  try clear hfz11_2
  try clear hfz13_0
  try clear hfz13_1
  try clear hfz13_2
  try clear hfz22_0
  try clear hfz22_1
  try clear hfz22_2
  try clear hfz24_0
  try clear hfz24_1
  try clear hfz24_2
  try clear hfz26_0
  try clear hfz26_1
  try clear hfz26_2
  try clear hfz27_0
  try clear hfz27_1
  try clear hfz27_2
  try clear hfz29_0
  try clear hfz29_1
  try clear hfz29_2
  try clear hfz33_0
  try clear hfz33_1
  try clear hfz33_2
  try clear hfz35_0
  try clear hfz35_1
  try clear hfz35_2
  try clear hfz37_0
  try clear hfz37_1
  try clear hfz37_2
  try clear hfz38_0
  try clear hfz38_1
  try clear hfz38_2
  try clear hfz42_0
  try clear hfz42_1
  try clear hfz42_2
  try clear hfz44_0
  try clear hfz44_1
  try clear hfz44_2
  obtain ⟨kq, x29_4, rfl, HA, HJ4, BK357, BK358, BK359, HB⟩ := hcut
  cases kq with
  | zero => exact absurd HA.out (by simp [semigrouplaw04_ExprCompares.j0])
  | succ kj4 =>
   have H := HA.out
   clear HA
   simp only [semigrouplaw04_ExprCompares.j0] at H
   by_cases c46 : x29_4 = true
   ·subst c46
    have H1 : (some false) = some r := by rw [if_pos rfl] at H; exact H
    clear H
    have H := H1
    clear H1
    obtain rfl := Option.some.inj H
    go_wp2
    go_ret
    exact ⟨by first | rfl | (simp [errW_none, errW_some] <;> rfl) | (simp [*, errW_none, errW_some] <;> rfl), bB⟩
   ·replace c46 := Bool.eq_false_iff.mpr c46
    subst c46
    have H1 : (if t360 ≤ 0 then ((expr_Compare.f kj4 a1_0 a1_1 l1_2 a2_0 a2_1 l2_2).bind fun t364 => (if t364 ≤ 0 then ((expr_Compare.f kj4 a0_0 a0_1 l0_2 a2_0 a2_1 l2_2).bind fun t365 => (if t365 > 0 then (some false) else ((semigrouplaw04_awake.f kj4).bind fun t366 => (some t366)))) else ((semigrouplaw04_awake.f kj4).bind fun t367 => (some t367)))) else ((semigrouplaw04_awake.f kj4).bind fun t368 => (some t368))) = some r := by rw [if_neg (show ¬ (false = true) by decide)] at H; exact H
    clear H
    have H := H1
    clear H1
    by_cases c47 : t360 ≤ 0
    ·rw [if_pos c47] at H
     have c47b0 : decide (t360 ≤ 0) = true := decide_eq_true c47
     clear c47
     replace H := Option.bind_eq_some_iff.mp H
     obtain ⟨t364, A480, H⟩ := H
     replace H : (if t364 ≤ 0 then ((expr_Compare.f kj4 a0_0 a0_1 l0_2 a2_0 a2_1 l2_2).bind fun t365 => (if t365 > 0 then (some false) else ((semigrouplaw04_awake.f kj4).bind fun t366 => (some t366)))) else ((semigrouplaw04_awake.f kj4).bind fun t367 => (some t367))) = some r := H
     have A48 := Aside0.mk A480
     clear A480
     by_cases c49 : t364 ≤ 0
     ·rw [if_pos c49] at H
      have c49b0 : decide (t364 ≤ 0) = true := decide_eq_true c49
      clear c49
      replace H := Option.bind_eq_some_iff.mp H
      obtain ⟨t365, A500, H⟩ := H
      replace H : (if t365 > 0 then (some false) else ((semigrouplaw04_awake.f kj4).bind fun t366 => (some t366))) = some r := H
      have A50 := Aside0.mk A500
      clear A500
      by_cases c51 : t365 > 0
      ·rw [if_pos c51] at H
       have c51b0 : decide (0 < t365) = true := decide_eq_true c51
       clear c51
       obtain rfl := Option.some.inj H
       have hnb52 := NB358_357.out
       have hnc52 := NB357_358.out
       have hnb53 := NB358_359.out
       have hnc53 := NB359_358.out
       have hcz54_0 : wc.cell? ⟨gb358, 0, none⟩ = some (.int .i64 a1_0) := (blk_cell BK358.out 0).trans rfl
       have hcz54_1 : wc.cell? ⟨gb358, 1, none⟩ = some (.int .i64 a1_1) := (blk_cell BK358.out 1).trans rfl
       have hcz54_2 : wc.cell? ⟨gb358, 2, none⟩ = some (.slice A1_2 l1_2.length c1_2) := (blk_cell BK358.out 2).trans rfl
       have hfz54_0 := blk_frozen BK358.out 0
       have hfz54_1 := blk_frozen BK358.out 1
       have hfz54_2 := blk_frozen BK358.out 2
       have hnb55 := NB359_357.out
       have hnc55 := NB357_359.out
       have hcz56_0 : wc.cell? ⟨gb359, 0, none⟩ = some (.int .i64 a2_0) := (blk_cell BK359.out 0).trans rfl
       have hcz56_1 : wc.cell? ⟨gb359, 1, none⟩ = some (.int .i64 a2_1) := (blk_cell BK359.out 1).trans rfl
       have hcz56_2 : wc.cell? ⟨gb359, 2, none⟩ = some (.slice A2_2 l2_2.length c2_2) := (blk_cell BK359.out 2).trans rfl
       have hfz56_0 := blk_frozen BK359.out 0
       have hfz56_1 := blk_frozen BK359.out 1
       have hfz56_2 := blk_frozen BK359.out 2
       go_wp2_with (first | (go_at_call 23; (with_reducible refine (expr_Compare.calls kj4 a1_0 a1_1 _ _ l1_2 a2_0 a2_1 _ _ l2_2 t364 _ ?side1 ?side2 ?side3 ?side4 A48.out).mono ?_); (case side1 => repeat (first | exact (Kd.C_below HR1_2.out HB.out) | (with_reducible refine Kd.C_alloc ?_ _) | (with_reducible refine Kd.C_drewN ?_ _) | (with_reducible refine Kd.C_drew ?_))); (case side2 => exact HC1_2.out); (case side3 => repeat (first | exact (Kd.C_below HR2_2.out HB.out) | (with_reducible refine Kd.C_alloc ?_ _) | (with_reducible refine Kd.C_drewN ?_ _) | (with_reducible refine Kd.C_drew ?_))); (case side4 => exact HC2_2.out); rintro e w57 ⟨rfl, hb⟩; have n0_ := Aside0.mk (blk_below (g := gb357) (o := .cells #[.int .i64 a0_0, .int .i64 a0_1, .slice A0_2 l0_2.length c0_2] 24 (0, 0)) (bK) hb); have n1_ := Aside0.mk (blk_below (g := gb358) (o := .cells #[.int .i64 a1_0, .int .i64 a1_1, .slice A1_2 l1_2.length c1_2] 24 (0, 0)) (bK) hb); have n2_ := Aside0.mk (blk_below (g := gb359) (o := .cells #[.int .i64 a2_0, .int .i64 a2_1, .slice A2_2 l2_2.length c2_2] 24 (0, 0)) (bK) hb); have n3_ := Aside0.mk (below_step (bB) hb); clear BK357; clear BK358; clear BK359; clear HB; have BK357 := n0_; have BK358 := n1_; have BK359 := n2_; have HB := n3_; clear n0_ n1_ n2_ n3_; (try clear hb); (try clear hb2); (try clear hk); (try clear hi); have hcz58_0 : w57.cell? ⟨gb357, 0, none⟩ = some (.int .i64 a0_0) := (blk_cell BK357.out 0).trans rfl; have hcz58_1 : w57.cell? ⟨gb357, 1, none⟩ = some (.int .i64 a0_1) := (blk_cell BK357.out 1).trans rfl; have hcz58_2 : w57.cell? ⟨gb357, 2, none⟩ = some (.slice A0_2 l0_2.length c0_2) := (blk_cell BK357.out 2).trans rfl; have hfz58_0 := blk_frozen BK357.out 0; have hfz58_1 := blk_frozen BK357.out 1; have hfz58_2 := blk_frozen BK357.out 2; have hcz59_0 : w57.cell? ⟨gb359, 0, none⟩ = some (.int .i64 a2_0) := (blk_cell BK359.out 0).trans rfl; have hcz59_1 : w57.cell? ⟨gb359, 1, none⟩ = some (.int .i64 a2_1) := (blk_cell BK359.out 1).trans rfl; have hcz59_2 : w57.cell? ⟨gb359, 2, none⟩ = some (.slice A2_2 l2_2.length c2_2) := (blk_cell BK359.out 2).trans rfl; have hfz59_0 := blk_frozen BK359.out 0; have hfz59_1 := blk_frozen BK359.out 1; have hfz59_2 := blk_frozen BK359.out 2) | (go_at_call 23; (with_reducible refine (expr_Compare.calls kj4 a0_0 a0_1 _ _ l0_2 a2_0 a2_1 _ _ l2_2 t365 _ ?side1 ?side2 ?side3 ?side4 A50.out).mono ?_); (case side1 => repeat (first | exact (Kd.C_below HR0_2.out HB.out) | (with_reducible refine Kd.C_alloc ?_ _) | (with_reducible refine Kd.C_drewN ?_ _) | (with_reducible refine Kd.C_drew ?_))); (case side2 => exact HC0_2.out); (case side3 => repeat (first | exact (Kd.C_below HR2_2.out HB.out) | (with_reducible refine Kd.C_alloc ?_ _) | (with_reducible refine Kd.C_drewN ?_ _) | (with_reducible refine Kd.C_drew ?_))); (case side4 => exact HC2_2.out); rintro e w60 ⟨rfl, hb⟩; have n0_ := Aside0.mk (blk_below (g := gb357) (o := .cells #[.int .i64 a0_0, .int .i64 a0_1, .slice A0_2 l0_2.length c0_2] 24 (0, 0)) (bK) hb); have n1_ := Aside0.mk (blk_below (g := gb358) (o := .cells #[.int .i64 a1_0, .int .i64 a1_1, .slice A1_2 l1_2.length c1_2] 24 (0, 0)) (bK) hb); have n2_ := Aside0.mk (blk_below (g := gb359) (o := .cells #[.int .i64 a2_0, .int .i64 a2_1, .slice A2_2 l2_2.length c2_2] 24 (0, 0)) (bK) hb); have n3_ := Aside0.mk (below_step (bB) hb); clear BK357; clear BK358; clear BK359; clear HB; have BK357 := n0_; have BK358 := n1_; have BK359 := n2_; have HB := n3_; clear n0_ n1_ n2_ n3_; (try clear hb); (try clear hb2); (try clear hk); (try clear hi)))
       go_ret
       exact ⟨by first | rfl | (simp [errW_none, errW_some] <;> rfl) | (simp [*, errW_none, errW_some] <;> rfl), bB⟩
      ·rw [if_neg c51] at H
       have c51b0 : decide (0 < t365) = false := decide_eq_false c51
       clear c51
       replace H := Option.bind_eq_some_iff.mp H
       obtain ⟨t366, A610, H⟩ := H
       replace H : (some t366) = some r := H
       have A61 := Aside0.mk A610
       clear A610
       obtain rfl := Option.some.inj H
       have hnb62 := NB358_357.out
       have hnc62 := NB357_358.out
       have hnb63 := NB358_359.out
       have hnc63 := NB359_358.out
       have hcz64_0 : wc.cell? ⟨gb358, 0, none⟩ = some (.int .i64 a1_0) := (blk_cell BK358.out 0).trans rfl
       have hcz64_1 : wc.cell? ⟨gb358, 1, none⟩ = some (.int .i64 a1_1) := (blk_cell BK358.out 1).trans rfl
       have hcz64_2 : wc.cell? ⟨gb358, 2, none⟩ = some (.slice A1_2 l1_2.length c1_2) := (blk_cell BK358.out 2).trans rfl
       have hfz64_0 := blk_frozen BK358.out 0
       have hfz64_1 := blk_frozen BK358.out 1
       have hfz64_2 := blk_frozen BK358.out 2
       have hnb65 := NB359_357.out
       have hnc65 := NB357_359.out
       have hcz66_0 : wc.cell? ⟨gb359, 0, none⟩ = some (.int .i64 a2_0) := (blk_cell BK359.out 0).trans rfl
       have hcz66_1 : wc.cell? ⟨gb359, 1, none⟩ = some (.int .i64 a2_1) := (blk_cell BK359.out 1).trans rfl
       have hcz66_2 : wc.cell? ⟨gb359, 2, none⟩ = some (.slice A2_2 l2_2.length c2_2) := (blk_cell BK359.out 2).trans rfl
       have hfz66_0 := blk_frozen BK359.out 0
       have hfz66_1 := blk_frozen BK359.out 1
       have hfz66_2 := blk_frozen BK359.out 2
       go_wp2_with (first | (go_at_call 23; (with_reducible refine (expr_Compare.calls kj4 a1_0 a1_1 _ _ l1_2 a2_0 a2_1 _ _ l2_2 t364 _ ?side1 ?side2 ?side3 ?side4 A48.out).mono ?_); (case side1 => repeat (first | exact (Kd.C_below HR1_2.out HB.out) | (with_reducible refine Kd.C_alloc ?_ _) | (with_reducible refine Kd.C_drewN ?_ _) | (with_reducible refine Kd.C_drew ?_))); (case side2 => exact HC1_2.out); (case side3 => repeat (first | exact (Kd.C_below HR2_2.out HB.out) | (with_reducible refine Kd.C_alloc ?_ _) | (with_reducible refine Kd.C_drewN ?_ _) | (with_reducible refine Kd.C_drew ?_))); (case side4 => exact HC2_2.out); rintro e w67 ⟨rfl, hb⟩; have n0_ := Aside0.mk (blk_below (g := gb357) (o := .cells #[.int .i64 a0_0, .int .i64 a0_1, .slice A0_2 l0_2.length c0_2] 24 (0, 0)) (bK) hb); have n1_ := Aside0.mk (blk_below (g := gb358) (o := .cells #[.int .i64 a1_0, .int .i64 a1_1, .slice A1_2 l1_2.length c1_2] 24 (0, 0)) (bK) hb); have n2_ := Aside0.mk (blk_below (g := gb359) (o := .cells #[.int .i64 a2_0, .int .i64 a2_1, .slice A2_2 l2_2.length c2_2] 24 (0, 0)) (bK) hb); have n3_ := Aside0.mk (below_step (bB) hb); clear BK357; clear BK358; clear BK359; clear HB; have BK357 := n0_; have BK358 := n1_; have BK359 := n2_; have HB := n3_; clear n0_ n1_ n2_ n3_; (try clear hb); (try clear hb2); (try clear hk); (try clear hi); have hcz68_0 : w67.cell? ⟨gb357, 0, none⟩ = some (.int .i64 a0_0) := (blk_cell BK357.out 0).trans rfl; have hcz68_1 : w67.cell? ⟨gb357, 1, none⟩ = some (.int .i64 a0_1) := (blk_cell BK357.out 1).trans rfl; have hcz68_2 : w67.cell? ⟨gb357, 2, none⟩ = some (.slice A0_2 l0_2.length c0_2) := (blk_cell BK357.out 2).trans rfl; have hfz68_0 := blk_frozen BK357.out 0; have hfz68_1 := blk_frozen BK357.out 1; have hfz68_2 := blk_frozen BK357.out 2; have hcz69_0 : w67.cell? ⟨gb359, 0, none⟩ = some (.int .i64 a2_0) := (blk_cell BK359.out 0).trans rfl; have hcz69_1 : w67.cell? ⟨gb359, 1, none⟩ = some (.int .i64 a2_1) := (blk_cell BK359.out 1).trans rfl; have hcz69_2 : w67.cell? ⟨gb359, 2, none⟩ = some (.slice A2_2 l2_2.length c2_2) := (blk_cell BK359.out 2).trans rfl; have hfz69_0 := blk_frozen BK359.out 0; have hfz69_1 := blk_frozen BK359.out 1; have hfz69_2 := blk_frozen BK359.out 2) | (go_at_call 23; (with_reducible refine (expr_Compare.calls kj4 a0_0 a0_1 _ _ l0_2 a2_0 a2_1 _ _ l2_2 t365 _ ?side1 ?side2 ?side3 ?side4 A50.out).mono ?_); (case side1 => repeat (first | exact (Kd.C_below HR0_2.out HB.out) | (with_reducible refine Kd.C_alloc ?_ _) | (with_reducible refine Kd.C_drewN ?_ _) | (with_reducible refine Kd.C_drew ?_))); (case side2 => exact HC0_2.out); (case side3 => repeat (first | exact (Kd.C_below HR2_2.out HB.out) | (with_reducible refine Kd.C_alloc ?_ _) | (with_reducible refine Kd.C_drewN ?_ _) | (with_reducible refine Kd.C_drew ?_))); (case side4 => exact HC2_2.out); rintro e w70 ⟨rfl, hb⟩; have n0_ := Aside0.mk (blk_below (g := gb357) (o := .cells #[.int .i64 a0_0, .int .i64 a0_1, .slice A0_2 l0_2.length c0_2] 24 (0, 0)) (bK) hb); have n1_ := Aside0.mk (blk_below (g := gb358) (o := .cells #[.int .i64 a1_0, .int .i64 a1_1, .slice A1_2 l1_2.length c1_2] 24 (0, 0)) (bK) hb); have n2_ := Aside0.mk (blk_below (g := gb359) (o := .cells #[.int .i64 a2_0, .int .i64 a2_1, .slice A2_2 l2_2.length c2_2] 24 (0, 0)) (bK) hb); have n3_ := Aside0.mk (below_step (bB) hb); clear BK357; clear BK358; clear BK359; clear HB; have BK357 := n0_; have BK358 := n1_; have BK359 := n2_; have HB := n3_; clear n0_ n1_ n2_ n3_; (try clear hb); (try clear hb2); (try clear hk); (try clear hi)) | ((with_reducible refine gate_callee (f := 17) rfl ?_); refine goesL_ (some 44) rfl rfl Try.func17 (by kernel_rfl) rfl #[] rfl (by (try simp only [List.map_toArray, List.map_cons, List.map_nil]); first | done | rfl | (simp only [List.length_drop, List.length_take]; rfl) | (simp only [Int.ofNat_lt, Int.ofNat_le]; rfl)) ?_; (with_reducible refine (semigrouplaw04_awake.calls kj4  t366 _ A61.out).mono ?_); rintro e w71 ⟨rfl, hb⟩; refine ⟨_, rfl, ?_⟩; have n0_ := Aside0.mk (blk_below (g := gb357) (o := .cells #[.int .i64 a0_0, .int .i64 a0_1, .slice A0_2 l0_2.length c0_2] 24 (0, 0)) (bK) hb); have n1_ := Aside0.mk (blk_below (g := gb358) (o := .cells #[.int .i64 a1_0, .int .i64 a1_1, .slice A1_2 l1_2.length c1_2] 24 (0, 0)) (bK) hb); have n2_ := Aside0.mk (blk_below (g := gb359) (o := .cells #[.int .i64 a2_0, .int .i64 a2_1, .slice A2_2 l2_2.length c2_2] 24 (0, 0)) (bK) hb); have n3_ := Aside0.mk (below_step (bB) hb); clear BK357; clear BK358; clear BK359; clear HB; have BK357 := n0_; have BK358 := n1_; have BK359 := n2_; have HB := n3_; clear n0_ n1_ n2_ n3_; (try clear hb); (try clear hb2); (try clear hk); (try clear hi)))
       go_ret
       exact ⟨by first | rfl | (simp [errW_none, errW_some] <;> rfl) | (simp [*, errW_none, errW_some] <;> rfl), bB⟩
     ·rw [if_neg c49] at H
      have c49b0 : decide (t364 ≤ 0) = false := decide_eq_false c49
      clear c49
      replace H := Option.bind_eq_some_iff.mp H
      obtain ⟨t367, A720, H⟩ := H
      replace H : (some t367) = some r := H
      have A72 := Aside0.mk A720
      clear A720
      obtain rfl := Option.some.inj H
      have hnb73 := NB358_357.out
      have hnc73 := NB357_358.out
      have hnb74 := NB358_359.out
      have hnc74 := NB359_358.out
      have hcz75_0 : wc.cell? ⟨gb358, 0, none⟩ = some (.int .i64 a1_0) := (blk_cell BK358.out 0).trans rfl
      have hcz75_1 : wc.cell? ⟨gb358, 1, none⟩ = some (.int .i64 a1_1) := (blk_cell BK358.out 1).trans rfl
      have hcz75_2 : wc.cell? ⟨gb358, 2, none⟩ = some (.slice A1_2 l1_2.length c1_2) := (blk_cell BK358.out 2).trans rfl
      have hfz75_0 := blk_frozen BK358.out 0
      have hfz75_1 := blk_frozen BK358.out 1
      have hfz75_2 := blk_frozen BK358.out 2
      have hnb76 := NB359_357.out
      have hnc76 := NB357_359.out
      have hcz77_0 : wc.cell? ⟨gb359, 0, none⟩ = some (.int .i64 a2_0) := (blk_cell BK359.out 0).trans rfl
      have hcz77_1 : wc.cell? ⟨gb359, 1, none⟩ = some (.int .i64 a2_1) := (blk_cell BK359.out 1).trans rfl
      have hcz77_2 : wc.cell? ⟨gb359, 2, none⟩ = some (.slice A2_2 l2_2.length c2_2) := (blk_cell BK359.out 2).trans rfl
      have hfz77_0 := blk_frozen BK359.out 0
      have hfz77_1 := blk_frozen BK359.out 1
      have hfz77_2 := blk_frozen BK359.out 2
      go_wp2_with (first | (go_at_call 23; (with_reducible refine (expr_Compare.calls kj4 a1_0 a1_1 _ _ l1_2 a2_0 a2_1 _ _ l2_2 t364 _ ?side1 ?side2 ?side3 ?side4 A48.out).mono ?_); (case side1 => repeat (first | exact (Kd.C_below HR1_2.out HB.out) | (with_reducible refine Kd.C_alloc ?_ _) | (with_reducible refine Kd.C_drewN ?_ _) | (with_reducible refine Kd.C_drew ?_))); (case side2 => exact HC1_2.out); (case side3 => repeat (first | exact (Kd.C_below HR2_2.out HB.out) | (with_reducible refine Kd.C_alloc ?_ _) | (with_reducible refine Kd.C_drewN ?_ _) | (with_reducible refine Kd.C_drew ?_))); (case side4 => exact HC2_2.out); rintro e w78 ⟨rfl, hb⟩; have n0_ := Aside0.mk (blk_below (g := gb357) (o := .cells #[.int .i64 a0_0, .int .i64 a0_1, .slice A0_2 l0_2.length c0_2] 24 (0, 0)) (bK) hb); have n1_ := Aside0.mk (blk_below (g := gb358) (o := .cells #[.int .i64 a1_0, .int .i64 a1_1, .slice A1_2 l1_2.length c1_2] 24 (0, 0)) (bK) hb); have n2_ := Aside0.mk (blk_below (g := gb359) (o := .cells #[.int .i64 a2_0, .int .i64 a2_1, .slice A2_2 l2_2.length c2_2] 24 (0, 0)) (bK) hb); have n3_ := Aside0.mk (below_step (bB) hb); clear BK357; clear BK358; clear BK359; clear HB; have BK357 := n0_; have BK358 := n1_; have BK359 := n2_; have HB := n3_; clear n0_ n1_ n2_ n3_; (try clear hb); (try clear hb2); (try clear hk); (try clear hi)) | ((with_reducible refine gate_callee (f := 17) rfl ?_); refine goesL_ (some 44) rfl rfl Try.func17 (by kernel_rfl) rfl #[] rfl (by (try simp only [List.map_toArray, List.map_cons, List.map_nil]); first | done | rfl | (simp only [List.length_drop, List.length_take]; rfl) | (simp only [Int.ofNat_lt, Int.ofNat_le]; rfl)) ?_; (with_reducible refine (semigrouplaw04_awake.calls kj4  t367 _ A72.out).mono ?_); rintro e w79 ⟨rfl, hb⟩; refine ⟨_, rfl, ?_⟩; have n0_ := Aside0.mk (blk_below (g := gb357) (o := .cells #[.int .i64 a0_0, .int .i64 a0_1, .slice A0_2 l0_2.length c0_2] 24 (0, 0)) (bK) hb); have n1_ := Aside0.mk (blk_below (g := gb358) (o := .cells #[.int .i64 a1_0, .int .i64 a1_1, .slice A1_2 l1_2.length c1_2] 24 (0, 0)) (bK) hb); have n2_ := Aside0.mk (blk_below (g := gb359) (o := .cells #[.int .i64 a2_0, .int .i64 a2_1, .slice A2_2 l2_2.length c2_2] 24 (0, 0)) (bK) hb); have n3_ := Aside0.mk (below_step (bB) hb); clear BK357; clear BK358; clear BK359; clear HB; have BK357 := n0_; have BK358 := n1_; have BK359 := n2_; have HB := n3_; clear n0_ n1_ n2_ n3_; (try clear hb); (try clear hb2); (try clear hk); (try clear hi)))
      go_ret
      exact ⟨by first | rfl | (simp [errW_none, errW_some] <;> rfl) | (simp [*, errW_none, errW_some] <;> rfl), bB⟩
    ·rw [if_neg c47] at H
     have c47b0 : decide (t360 ≤ 0) = false := decide_eq_false c47
     clear c47
     replace H := Option.bind_eq_some_iff.mp H
     obtain ⟨t368, A800, H⟩ := H
     replace H : (some t368) = some r := H
     have A80 := Aside0.mk A800
     clear A800
     obtain rfl := Option.some.inj H
     go_wp2_with (first | ((with_reducible refine gate_callee (f := 17) rfl ?_); refine goesL_ (some 44) rfl rfl Try.func17 (by kernel_rfl) rfl #[] rfl (by (try simp only [List.map_toArray, List.map_cons, List.map_nil]); first | done | rfl | (simp only [List.length_drop, List.length_take]; rfl) | (simp only [Int.ofNat_lt, Int.ofNat_le]; rfl)) ?_; (with_reducible refine (semigrouplaw04_awake.calls kj4  t368 _ A80.out).mono ?_); rintro e w81 ⟨rfl, hb⟩; refine ⟨_, rfl, ?_⟩; have n0_ := Aside0.mk (blk_below (g := gb357) (o := .cells #[.int .i64 a0_0, .int .i64 a0_1, .slice A0_2 l0_2.length c0_2] 24 (0, 0)) (bK) hb); have n1_ := Aside0.mk (blk_below (g := gb358) (o := .cells #[.int .i64 a1_0, .int .i64 a1_1, .slice A1_2 l1_2.length c1_2] 24 (0, 0)) (bK) hb); have n2_ := Aside0.mk (blk_below (g := gb359) (o := .cells #[.int .i64 a2_0, .int .i64 a2_1, .slice A2_2 l2_2.length c2_2] 24 (0, 0)) (bK) hb); have n3_ := Aside0.mk (below_step (bB) hb); clear BK357; clear BK358; clear BK359; clear HB; have BK357 := n0_; have BK358 := n1_; have BK359 := n2_; have HB := n3_; clear n0_ n1_ n2_ n3_; (try clear hb); (try clear hb2); (try clear hk); (try clear hi)))
     go_ret
     exact ⟨by first | rfl | (simp [errW_none, errW_some] <;> rfl) | (simp [*, errW_none, errW_some] <;> rfl), bB⟩
end Go.Proofs.Ytjofkebiacaciaa.PAll
end
section
namespace Go.Proofs.Ytjofkebiacaciaa.PAll
open Go.RowKit Go.Proofs.YtjofkebiacaciaaW.PrintWords Go.Proofs.YtjofkebiacaciaaW.PrintLast Go.Proofs.YtjofkebiacaciaaW.PrintMore
attribute [local go_sem] max2_int min2_int max_two min_two max_three min_three max_four min_four
set_option linter.unusedVariables false
set_option linter.unusedSimpArgs false
def semigrouplaw04_same.f (k : Nat) (a0_0 : Int) (a0_1 : Int) (l0_2 : List (S24)) (a1_0 : Int) (a1_1 : Int) (l1_2 : List (S24)) : Option (Bool) := (semigroupref04_Compare.f k a0_0 a0_1 l0_2 a1_0 a1_1 l1_2).bind fun t330 => (some (t330 == 0))
theorem semigrouplaw04_same.mono : ∀ a0 a1 a2 a3 a4 a5 k, LeO (semigrouplaw04_same.f k a0 a1 a2 a3 a4 a5) (semigrouplaw04_same.f (k + 1) a0 a1 a2 a3 a4 a5) := by
 intro a0 a1 a2 a3 a4 a5 k
 unfold semigrouplaw04_same.f
 repeat' first
   | (with_reducible exact semigroupref04_Compare.mono _ _ _ _ _ _ _)
   | (with_reducible exact LeO.refl _)
   | (with_reducible exact LeO.none _)
   | (with_reducible refine LeO.ite ?_ ?_)
   | (with_reducible refine LeO.bind ?_ (fun _ => ?_))
   | exact semigroupref04_Compare.mono _ _ _ _ _ _ _
   | exact LeO.none _
   | refine LeO.ite ?_ ?_
   | refine LeO.bind ?_ (fun _ => ?_)
set_option maxHeartbeats 8000000 in
set_option maxRecDepth 100000 in
theorem semigrouplaw04_same.calls (k : Nat) (a0_0 : Int) (a0_1 : Int) (A0_2 : Option Addr) (c0_2 : Nat) (l0_2 : List (S24)) (a1_0 : Int) (a1_1 : Int) (A1_2 : Option Addr) (c1_2 : Nat) (l1_2 : List (S24)) (r : Bool) (w : World) (hr0_2 : Kd.C k24 w A0_2 l0_2.length l0_2) (hc0_2 : l0_2.length ≤ c0_2) (hr1_2 : Kd.C k24 w A1_2 l1_2.length l1_2) (hc1_2 : l1_2.length ≤ c1_2) (h : semigrouplaw04_same.f k a0_0 a0_1 l0_2 a1_0 a1_1 l1_2 = some r) :
  Calls Try.prog 22 #[.agg #[.int .i64 a0_0, .int .i64 a0_1, .slice A0_2 l0_2.length c0_2], .agg #[.int .i64 a1_0, .int .i64 a1_1, .slice A1_2 l1_2.length c1_2]] w fun e w' => e = .returned (.bool r) ∧ Below w.heap.size w w' := by
 have hu24 := Try.underlying24
 have HR0_2 := Aside0.mk hr0_2
 have HC0_2 := Aside0.mk hc0_2
 clear hr0_2 hc0_2
 have HR1_2 := Aside0.mk hr1_2
 have HC1_2 := Aside0.mk hc1_2
 clear hr1_2 hc1_2
 have HB := Aside0.mk (Below.refl w.heap.size w)
 have H : ((semigroupref04_Compare.f k a0_0 a0_1 l0_2 a1_0 a1_1 l1_2).bind fun t330 => (some (t330 == 0))) = some r := h
 clear h
 replace H := Option.bind_eq_some_iff.mp H
 obtain ⟨t330, A30, H⟩ := H
 replace H : (some (t330 == 0)) = some r := H
 have A3 := Aside0.mk A30
 clear A30
 obtain rfl := Option.some.inj H
 go_enter Try.func22, Try.ntmps22
 go_wp2_with (first | ((with_reducible refine gate_dst (N := 2) rfl ?_); refine box_event ?hg (N := 2) ?hd (cs := #[.int .i64 a0_0, .int .i64 a0_1, .slice A0_2 l0_2.length c0_2]) (t := 24) ?hr ?_; (case hd => rfl); (case hg => rfl); (case hr => first | (go_simp; done) | (go_simp; rfl)); intro gb328 hg w4 hbox hb; have n0_ := Aside0.mk (below_step (bB) hb); have n1_ := Aside0.mk (hbox); have n2_ := Aside0.mk ((by rw [hg]; exact (below_size (bB)) : w.heap.size ≤ gb328)); have n3_ := Aside0.mk ((by rw [hg]; exact (below_size (bB)) : w.heap.size ≤ gb328)); clear HB; have HB := n0_; have BK328 := n1_; have GW328 := n2_; have GE328 := n3_; clear n0_ n1_ n2_ n3_; clear hb hbox hg) | ((with_reducible refine gate_dst (N := 3) rfl ?_); refine box_event ?hg (N := 3) ?hd (cs := #[.int .i64 a1_0, .int .i64 a1_1, .slice A1_2 l1_2.length c1_2]) (t := 24) ?hr ?_; (case hd => rfl); (case hg => rfl); (case hr => first | (go_simp; done) | (go_simp; rfl)); intro gb329 hg w5 hbox hb; have n0_ := Aside0.mk (blk_below (g := gb328) (o := .cells #[.int .i64 a0_0, .int .i64 a0_1, .slice A0_2 l0_2.length c0_2] 24 (0, 0)) (bK) hb); have n1_ := Aside0.mk (below_step (bB) hb); have n2_ := Aside0.mk (hbox); have n3_ := Aside0.mk ((by rw [hg]; exact (below_size (bB)) : w.heap.size ≤ gb329)); have n4_ := Aside0.mk ((by rw [hg]; exact (below_size (bB)) : w.heap.size ≤ gb329)); have n5_ := Aside0.mk ((by rw [hg]; exact Nat.ne_of_lt (blk_lt (g := gb328) (o := .cells #[.int .i64 a0_0, .int .i64 a0_1, .slice A0_2 l0_2.length c0_2] 24 (0, 0)) (bK)) : gb328 ≠ gb329)); have n6_ := Aside0.mk ((by rw [hg]; exact Nat.ne_of_gt (blk_lt (g := gb328) (o := .cells #[.int .i64 a0_0, .int .i64 a0_1, .slice A0_2 l0_2.length c0_2] 24 (0, 0)) (bK)) : gb329 ≠ gb328)); clear BK328; clear HB; have BK328 := n0_; have HB := n1_; have BK329 := n2_; have GW329 := n3_; have GE329 := n4_; have NB328_329 := n5_; have NB329_328 := n6_; clear n0_ n1_ n2_ n3_ n4_ n5_ n6_; clear hb hbox hg; have hnb6 := NB328_329.out; have hnc6 := NB329_328.out; have hcz7_0 : w5.cell? ⟨gb328, 0, none⟩ = some (.int .i64 a0_0) := (blk_cell BK328.out 0).trans rfl; have hcz7_1 : w5.cell? ⟨gb328, 1, none⟩ = some (.int .i64 a0_1) := (blk_cell BK328.out 1).trans rfl; have hcz7_2 : w5.cell? ⟨gb328, 2, none⟩ = some (.slice A0_2 l0_2.length c0_2) := (blk_cell BK328.out 2).trans rfl; have hfz7_0 := blk_frozen BK328.out 0; have hfz7_1 := blk_frozen BK328.out 1; have hfz7_2 := blk_frozen BK328.out 2; have hcz8_0 : w5.cell? ⟨gb329, 0, none⟩ = some (.int .i64 a1_0) := (blk_cell BK329.out 0).trans rfl; have hcz8_1 : w5.cell? ⟨gb329, 1, none⟩ = some (.int .i64 a1_1) := (blk_cell BK329.out 1).trans rfl; have hcz8_2 : w5.cell? ⟨gb329, 2, none⟩ = some (.slice A1_2 l1_2.length c1_2) := (blk_cell BK329.out 2).trans rfl; have hfz8_0 := blk_frozen BK329.out 0; have hfz8_1 := blk_frozen BK329.out 1; have hfz8_2 := blk_frozen BK329.out 2) | ((with_reducible refine gate_callee (f := 24) rfl ?_); refine goesL_ (some 7) rfl rfl Try.func24 (by kernel_rfl) rfl #[.agg #[.int .i64 a0_0, .int .i64 a0_1, .slice A0_2 l0_2.length c0_2], .agg #[.int .i64 a1_0, .int .i64 a1_1, .slice A1_2 l1_2.length c1_2]] rfl (by (try simp only [List.map_toArray, List.map_cons, List.map_nil]); first | done | rfl | (simp only [List.length_drop, List.length_take]; rfl) | (simp only [Int.ofNat_lt, Int.ofNat_le]; rfl)) ?_; (with_reducible refine (semigroupref04_Compare.calls k a0_0 a0_1 _ _ l0_2 a1_0 a1_1 _ _ l1_2 t330 _ ?side1 ?side2 ?side3 ?side4 A3.out).mono ?_); (case side1 => repeat (first | exact (Kd.C_below HR0_2.out HB.out) | (with_reducible refine Kd.C_alloc ?_ _) | (with_reducible refine Kd.C_drewN ?_ _) | (with_reducible refine Kd.C_drew ?_))); (case side2 => exact HC0_2.out); (case side3 => repeat (first | exact (Kd.C_below HR1_2.out HB.out) | (with_reducible refine Kd.C_alloc ?_ _) | (with_reducible refine Kd.C_drewN ?_ _) | (with_reducible refine Kd.C_drew ?_))); (case side4 => exact HC1_2.out); rintro e w9 ⟨rfl, hb⟩; refine ⟨_, rfl, ?_⟩; have n0_ := Aside0.mk (blk_below (g := gb328) (o := .cells #[.int .i64 a0_0, .int .i64 a0_1, .slice A0_2 l0_2.length c0_2] 24 (0, 0)) (bK) hb); have n1_ := Aside0.mk (blk_below (g := gb329) (o := .cells #[.int .i64 a1_0, .int .i64 a1_1, .slice A1_2 l1_2.length c1_2] 24 (0, 0)) (bK) hb); have n2_ := Aside0.mk (below_step (bB) hb); clear BK328; clear BK329; clear HB; have BK328 := n0_; have BK329 := n1_; have HB := n2_; clear n0_ n1_ n2_; (try clear hb); (try clear hb2); (try clear hk); (try clear hi)))
 go_ret
 exact ⟨by first | rfl | (simp [errW_none, errW_some] <;> rfl) | (simp [*, errW_none, errW_some] <;> rfl), bB⟩
end Go.Proofs.Ytjofkebiacaciaa.PAll
end
section
namespace Go.Proofs.Ytjofkebiacaciaa.PAll
open Go.RowKit Go.Proofs.YtjofkebiacaciaaW.PrintWords Go.Proofs.YtjofkebiacaciaaW.PrintLast Go.Proofs.YtjofkebiacaciaaW.PrintMore
attribute [local go_sem] max2_int min2_int max_two min_two max_three min_three max_four min_four
set_option linter.unusedVariables false
set_option linter.unusedSimpArgs false
def semigroupref01_MayLetters.f (a0 : Int) : Option (Bool) := if a0 ≥ 1 then (some (decide (a0 ≤ 6))) else (some false)
set_option maxHeartbeats 8000000 in
set_option maxRecDepth 100000 in
theorem semigroupref01_MayLetters.calls (a0 : Int) (r : Bool) (w : World) (h : semigroupref01_MayLetters.f a0 = some r) :
  Calls Try.prog 43 #[.int .i64 a0] w fun e w' => e = .returned (.bool r) ∧ Drawn0 w w' := by
 have H : (if a0 ≥ 1 then (some (decide (a0 ≤ 6))) else (some false)) = some r := h
 clear h
 by_cases c2 : a0 ≥ 1
 ·rw [if_pos c2] at H
  have c2b0 : decide (1 ≤ a0) = true := decide_eq_true c2
  clear c2
  obtain rfl := Option.some.inj H
  go_enter Try.func43, Try.ntmps43
  go_wp2
  go_ret
  exact ⟨by first | rfl | (simp; done) | (simp [*]; done), by repeat (first | exact Drawn0.refl _ | apply Drawn0.step)⟩
 ·rw [if_neg c2] at H
  have c2b0 : decide (1 ≤ a0) = false := decide_eq_false c2
  clear c2
  obtain rfl := Option.some.inj H
  go_enter Try.func43, Try.ntmps43
  go_wp2
  go_ret
  exact ⟨by first | rfl | (simp; done) | (simp [*]; done), by repeat (first | exact Drawn0.refl _ | apply Drawn0.step)⟩
end Go.Proofs.Ytjofkebiacaciaa.PAll
end
section
namespace Go.Proofs.Ytjofkebiacaciaa.PAll
open Go.RowKit Go.Proofs.YtjofkebiacaciaaW.PrintWords Go.Proofs.YtjofkebiacaciaaW.PrintLast Go.Proofs.YtjofkebiacaciaaW.PrintMore
attribute [local go_sem] max2_int min2_int max_two min_two max_three min_three max_four min_four
set_option linter.unusedVariables false
set_option linter.unusedSimpArgs false
mutual
def semigroupref04_shaped.j0 : Nat → Int → Int → Bool → Int → Int → List (S24) → Option (Bool)
 | 0, _, _, _, _, _, _ => none
 | k + 1, x1, x5, x6, x116000, x116001, x116002 => if x116000 = 1 then (semigroupref04_shaped.j1 k x1 x5 x6 x116000 (x116000 == 1) x116000 x116001 x116002) else (if x116000 = 2 then (semigroupref04_shaped.j1 k x1 x5 x6 x116000 (x116000 == 2) x116000 x116001 x116002) else (semigroupref04_shaped.j1 k x1 x5 x6 x116000 (x116000 == 3) x116000 x116001 x116002))
def semigroupref04_shaped.j2 : Nat → Int → Int → Bool → Int → Int → List (S24) → Option (Bool)
 | 0, _, _, _, _, _, _ => none
 | k + 1, x1, x5, x6, x116000, x116001, x116002 => if x116000 = 3 then (if x6 = true then (if x116001 ≥ 0 then (semigroupref04_shaped.j3 k x1 x5 (decide (x116001 < x1)) x116000 x116001 x116002) else (semigroupref04_shaped.j3 k x1 x5 false x116000 x116001 x116002)) else (semigroupref04_shaped.j3 k x1 x5 false x116000 x116001 x116002)) else (if x6 = true then (semigroupref04_shaped.j3 k x1 x5 (x116001 == 0) x116000 x116001 x116002) else (semigroupref04_shaped.j3 k x1 x5 false x116000 x116001 x116002))
def semigroupref04_shaped.j3 : Nat → Int → Int → Bool → Int → Int → List (S24) → Option (Bool)
 | 0, _, _, _, _, _, _ => none
 | k + 1, x1, x5, x6, x116000, x116001, x116002 => semigroupref04_shaped.l0 k x1 x5 x6 0 x116000 x116001 x116002
def semigroupref04_shaped.l0 : Nat → Int → Int → Bool → Int → Int → Int → List (S24) → Option (Bool)
 | 0, _, _, _, _, _, _, _ => none
 | k + 1, x1, x5, x6, x7, x116000, x116001, x116002 => if x7 < x5 then (if x6 = true then (if 0 ≤ x7 then (if x7 < (x116002.length : Int) then ((semigroupref04_shaped.f k ((rd_T24 x116002 x7).f0) ((rd_T24 x116002 x7).f1) ((rd_T24 x116002 x7).f2) x1).bind fun t117 => (semigroupref04_shaped.l0 k x1 x5 t117 (wrap64 (x7 + 1)) x116000 x116001 x116002)) else (none)) else (none)) else (some x6)) else (some x6)
def semigroupref04_shaped.j1 : Nat → Int → Int → Bool → Int → Bool → Int → Int → List (S24) → Option (Bool)
 | 0, _, _, _, _, _, _, _, _ => none
 | k + 1, x1, x5, x6, x20, x26, x116000, x116001, x116002 => if x26 = true then (semigroupref04_shaped.j2 k x1 x5 (x5 == 0) x116000 x116001 x116002) else (if x20 = 7 then (semigroupref04_shaped.j2 k x1 x5 (x5 == 1) x116000 x116001 x116002) else (if x20 = 8 then (semigroupref04_shaped.j2 k x1 x5 (x5 == 1) x116000 x116001 x116002) else (if x6 = true then (semigroupref04_shaped.j2 k x1 x5 (decide (x5 ≥ 2)) x116000 x116001 x116002) else (semigroupref04_shaped.j2 k x1 x5 false x116000 x116001 x116002))))
def semigroupref04_shaped.f : Nat → Int → Int → List (S24) → Int → Option (Bool)
 | 0, _, _, _, _ => none
 | k + 1, a0_0, a0_1, l0_2, a1 => if a0_0 ≥ 1 then (semigroupref04_shaped.j0 k a1 (l0_2.length : Int) (decide (a0_0 ≤ 8)) a0_0 a0_1 l0_2) else (semigroupref04_shaped.j0 k a1 (l0_2.length : Int) false a0_0 a0_1 l0_2)
end
theorem semigroupref04_shaped.mono_l : ∀ k, (∀ y0 y1 y2 y3, LeO (semigroupref04_shaped.f k y0 y1 y2 y3) (semigroupref04_shaped.f (k + 1) y0 y1 y2 y3)) ∧ (∀ y0 y1 y2 y3 y4 y5, LeO (semigroupref04_shaped.j0 k y0 y1 y2 y3 y4 y5) (semigroupref04_shaped.j0 (k + 1) y0 y1 y2 y3 y4 y5)) ∧ (∀ y0 y1 y2 y3 y4 y5, LeO (semigroupref04_shaped.j2 k y0 y1 y2 y3 y4 y5) (semigroupref04_shaped.j2 (k + 1) y0 y1 y2 y3 y4 y5)) ∧ (∀ y0 y1 y2 y3 y4 y5, LeO (semigroupref04_shaped.j3 k y0 y1 y2 y3 y4 y5) (semigroupref04_shaped.j3 (k + 1) y0 y1 y2 y3 y4 y5)) ∧ (∀ y0 y1 y2 y3 y4 y5 y6, LeO (semigroupref04_shaped.l0 k y0 y1 y2 y3 y4 y5 y6) (semigroupref04_shaped.l0 (k + 1) y0 y1 y2 y3 y4 y5 y6)) ∧ (∀ y0 y1 y2 y3 y4 y5 y6 y7, LeO (semigroupref04_shaped.j1 k y0 y1 y2 y3 y4 y5 y6 y7) (semigroupref04_shaped.j1 (k + 1) y0 y1 y2 y3 y4 y5 y6 y7))
 | 0 => ⟨fun _ _ _ _ r h => by simp [semigroupref04_shaped.f] at h, fun _ _ _ _ _ _ r h => by simp [semigroupref04_shaped.j0] at h, fun _ _ _ _ _ _ r h => by simp [semigroupref04_shaped.j2] at h, fun _ _ _ _ _ _ r h => by simp [semigroupref04_shaped.j3] at h, fun _ _ _ _ _ _ _ r h => by simp [semigroupref04_shaped.l0] at h, fun _ _ _ _ _ _ _ _ r h => by simp [semigroupref04_shaped.j1] at h⟩
 | k + 1 => by
  obtain ⟨ih0, ih1, ih2, ih3, ih4, ih5⟩ := semigroupref04_shaped.mono_l k
  refine ⟨?_, ?_, ?_, ?_, ?_, ?_⟩
  ·intro y0 y1 y2 y3
   unfold semigroupref04_shaped.f
   repeat' first
   | (with_reducible exact ih0 _ _ _ _)
   | (with_reducible exact ih1 _ _ _ _ _ _)
   | (with_reducible exact ih2 _ _ _ _ _ _)
   | (with_reducible exact ih3 _ _ _ _ _ _)
   | (with_reducible exact ih4 _ _ _ _ _ _ _)
   | (with_reducible exact ih5 _ _ _ _ _ _ _ _)
   | (with_reducible exact LeO.refl _)
   | (with_reducible exact LeO.none _)
   | (with_reducible refine LeO.ite ?_ ?_)
   | (with_reducible refine LeO.bind ?_ (fun _ => ?_))
   | exact ih0 _ _ _ _
   | exact ih1 _ _ _ _ _ _
   | exact ih2 _ _ _ _ _ _
   | exact ih3 _ _ _ _ _ _
   | exact ih4 _ _ _ _ _ _ _
   | exact ih5 _ _ _ _ _ _ _ _
   | exact LeO.none _
   | refine LeO.ite ?_ ?_
   | refine LeO.bind ?_ (fun _ => ?_)
  ·intro y0 y1 y2 y3 y4 y5
   unfold semigroupref04_shaped.j0
   repeat' first
   | (with_reducible exact ih0 _ _ _ _)
   | (with_reducible exact ih1 _ _ _ _ _ _)
   | (with_reducible exact ih2 _ _ _ _ _ _)
   | (with_reducible exact ih3 _ _ _ _ _ _)
   | (with_reducible exact ih4 _ _ _ _ _ _ _)
   | (with_reducible exact ih5 _ _ _ _ _ _ _ _)
   | (with_reducible exact LeO.refl _)
   | (with_reducible exact LeO.none _)
   | (with_reducible refine LeO.ite ?_ ?_)
   | (with_reducible refine LeO.bind ?_ (fun _ => ?_))
   | exact ih0 _ _ _ _
   | exact ih1 _ _ _ _ _ _
   | exact ih2 _ _ _ _ _ _
   | exact ih3 _ _ _ _ _ _
   | exact ih4 _ _ _ _ _ _ _
   | exact ih5 _ _ _ _ _ _ _ _
   | exact LeO.none _
   | refine LeO.ite ?_ ?_
   | refine LeO.bind ?_ (fun _ => ?_)
  ·intro y0 y1 y2 y3 y4 y5
   unfold semigroupref04_shaped.j2
   repeat' first
   | (with_reducible exact ih0 _ _ _ _)
   | (with_reducible exact ih1 _ _ _ _ _ _)
   | (with_reducible exact ih2 _ _ _ _ _ _)
   | (with_reducible exact ih3 _ _ _ _ _ _)
   | (with_reducible exact ih4 _ _ _ _ _ _ _)
   | (with_reducible exact ih5 _ _ _ _ _ _ _ _)
   | (with_reducible exact LeO.refl _)
   | (with_reducible exact LeO.none _)
   | (with_reducible refine LeO.ite ?_ ?_)
   | (with_reducible refine LeO.bind ?_ (fun _ => ?_))
   | exact ih0 _ _ _ _
   | exact ih1 _ _ _ _ _ _
   | exact ih2 _ _ _ _ _ _
   | exact ih3 _ _ _ _ _ _
   | exact ih4 _ _ _ _ _ _ _
   | exact ih5 _ _ _ _ _ _ _ _
   | exact LeO.none _
   | refine LeO.ite ?_ ?_
   | refine LeO.bind ?_ (fun _ => ?_)
  ·intro y0 y1 y2 y3 y4 y5
   unfold semigroupref04_shaped.j3
   repeat' first
   | (with_reducible exact ih0 _ _ _ _)
   | (with_reducible exact ih1 _ _ _ _ _ _)
   | (with_reducible exact ih2 _ _ _ _ _ _)
   | (with_reducible exact ih3 _ _ _ _ _ _)
   | (with_reducible exact ih4 _ _ _ _ _ _ _)
   | (with_reducible exact ih5 _ _ _ _ _ _ _ _)
   | (with_reducible exact LeO.refl _)
   | (with_reducible exact LeO.none _)
   | (with_reducible refine LeO.ite ?_ ?_)
   | (with_reducible refine LeO.bind ?_ (fun _ => ?_))
   | exact ih0 _ _ _ _
   | exact ih1 _ _ _ _ _ _
   | exact ih2 _ _ _ _ _ _
   | exact ih3 _ _ _ _ _ _
   | exact ih4 _ _ _ _ _ _ _
   | exact ih5 _ _ _ _ _ _ _ _
   | exact LeO.none _
   | refine LeO.ite ?_ ?_
   | refine LeO.bind ?_ (fun _ => ?_)
  ·intro y0 y1 y2 y3 y4 y5 y6
   unfold semigroupref04_shaped.l0
   repeat' first
   | (with_reducible exact ih0 _ _ _ _)
   | (with_reducible exact ih1 _ _ _ _ _ _)
   | (with_reducible exact ih2 _ _ _ _ _ _)
   | (with_reducible exact ih3 _ _ _ _ _ _)
   | (with_reducible exact ih4 _ _ _ _ _ _ _)
   | (with_reducible exact ih5 _ _ _ _ _ _ _ _)
   | (with_reducible exact LeO.refl _)
   | (with_reducible exact LeO.none _)
   | (with_reducible refine LeO.ite ?_ ?_)
   | (with_reducible refine LeO.bind ?_ (fun _ => ?_))
   | exact ih0 _ _ _ _
   | exact ih1 _ _ _ _ _ _
   | exact ih2 _ _ _ _ _ _
   | exact ih3 _ _ _ _ _ _
   | exact ih4 _ _ _ _ _ _ _
   | exact ih5 _ _ _ _ _ _ _ _
   | exact LeO.none _
   | refine LeO.ite ?_ ?_
   | refine LeO.bind ?_ (fun _ => ?_)
  ·intro y0 y1 y2 y3 y4 y5 y6 y7
   unfold semigroupref04_shaped.j1
   repeat' first
   | (with_reducible exact ih0 _ _ _ _)
   | (with_reducible exact ih1 _ _ _ _ _ _)
   | (with_reducible exact ih2 _ _ _ _ _ _)
   | (with_reducible exact ih3 _ _ _ _ _ _)
   | (with_reducible exact ih4 _ _ _ _ _ _ _)
   | (with_reducible exact ih5 _ _ _ _ _ _ _ _)
   | (with_reducible exact LeO.refl _)
   | (with_reducible exact LeO.none _)
   | (with_reducible refine LeO.ite ?_ ?_)
   | (with_reducible refine LeO.bind ?_ (fun _ => ?_))
   | exact ih0 _ _ _ _
   | exact ih1 _ _ _ _ _ _
   | exact ih2 _ _ _ _ _ _
   | exact ih3 _ _ _ _ _ _
   | exact ih4 _ _ _ _ _ _ _
   | exact ih5 _ _ _ _ _ _ _ _
   | exact LeO.none _
   | refine LeO.ite ?_ ?_
   | refine LeO.bind ?_ (fun _ => ?_)
theorem semigroupref04_shaped.mono : ∀ a0 a1 a2 a3 k, LeO (semigroupref04_shaped.f k a0 a1 a2 a3) (semigroupref04_shaped.f (k + 1) a0 a1 a2 a3) := by
 intro a0 a1 a2 a3 k
 obtain ⟨ih0, ih1, ih2, ih3, ih4, ih5⟩ := semigroupref04_shaped.mono_l k
 exact ih0 a0 a1 a2 a3
set_option maxHeartbeats 8000000 in
set_option maxRecDepth 100000 in
theorem semigroupref04_shaped.calls (k : Nat) : ∀ (a0_0 : Int) (a0_1 : Int) (A0_2 : Option Addr) (c0_2 : Nat) (l0_2 : List (S24)) (a1 : Int) (r : Bool) (w : World) (hr0_2 : Kd.C k24 w A0_2 l0_2.length l0_2) (hc0_2 : l0_2.length ≤ c0_2) (h : semigroupref04_shaped.f k a0_0 a0_1 l0_2 a1 = some r),
  Calls Try.prog 45 #[.agg #[.int .i64 a0_0, .int .i64 a0_1, .slice A0_2 l0_2.length c0_2], .int .i64 a1] w fun e w' => e = .returned (.bool r) ∧ Below w.heap.size w w' := by
 induction k using Nat.strongRecOn with
 | _ k ih =>
 intro a0_0 a0_1 A0_2 c0_2 l0_2 a1 r w hr0_2 hc0_2 h
 cases k with
 | zero => exact absurd h (by simp [semigroupref04_shaped.f])
 | succ k =>
 simp only [semigroupref04_shaped.f] at h
 have hu24 := Try.underlying24
 have HR0_2 := Aside0.mk hr0_2
 have HC0_2 := Aside0.mk hc0_2
 clear hr0_2 hc0_2
 have HB := Aside0.mk (Below.refl w.heap.size w)
 have H : (if a0_0 ≥ 1 then (semigroupref04_shaped.j0 k a1 (l0_2.length : Int) (decide (a0_0 ≤ 8)) a0_0 a0_1 l0_2) else (semigroupref04_shaped.j0 k a1 (l0_2.length : Int) false a0_0 a0_1 l0_2)) = some r := h
 clear h
 have HC3 := Aside0.mk H
 clear H
 go_enter Try.func45, Try.ntmps45
 go_upto_region 2 with (first | ((with_reducible refine gate_dst (N := 2) rfl ?_); refine box_event ?hg (N := 2) ?hd (cs := #[.int .i64 a0_0, .int .i64 a0_1, .slice A0_2 l0_2.length c0_2]) (t := 24) ?hr ?_; (case hd => rfl); (case hg => rfl); (case hr => first | (go_simp; done) | (go_simp; rfl)); intro gb115 hg w4 hbox hb; have n0_ := Aside0.mk (below_step (bB) hb); have n1_ := Aside0.mk (hbox); have n2_ := Aside0.mk ((by rw [hg]; exact (below_size (bB)) : w.heap.size ≤ gb115)); have n3_ := Aside0.mk ((by rw [hg]; exact (below_size (bB)) : w.heap.size ≤ gb115)); clear HB; have HB := n0_; have BK115 := n1_; have GW115 := n2_; have GE115 := n3_; clear n0_ n1_ n2_ n3_; clear hb hbox hg; have hcz5_0 : w4.cell? ⟨gb115, 0, none⟩ = some (.int .i64 a0_0) := (blk_cell BK115.out 0).trans rfl; have hcz5_1 : w4.cell? ⟨gb115, 1, none⟩ = some (.int .i64 a0_1) := (blk_cell BK115.out 1).trans rfl; have hcz5_2 : w4.cell? ⟨gb115, 2, none⟩ = some (.slice A0_2 l0_2.length c0_2) := (blk_cell BK115.out 2).trans rfl; have hfz5_0 := blk_frozen BK115.out 0; have hfz5_1 := blk_frozen BK115.out 1; have hfz5_2 := blk_frozen BK115.out 2))
 (try simp only [Act.put, List.setIfInBounds_toArray, List.set_cons_zero, List.set_cons_succ])
 go_cut [6] (fun v6 wc => ∃ (kq : Nat) (x6_2 : Bool), v6 = .bool x6_2 ∧ Aside0 (semigroupref04_shaped.j0 kq a1 (l0_2.length : Int) x6_2 a0_0 a0_1 l0_2 = some r) ∧ Aside0 (kq ≤ k) ∧ Aside0 (wc.heap[gb115]? = some (.cells #[.int .i64 a0_0, .int .i64 a0_1, (.slice A0_2 l0_2.length c0_2)] 24 (0, 0))) ∧ Aside0 (Below w.heap.size w wc))
 case first =>
  have H := HC3.out
  clear HC3
  by_cases c6 : a0_0 ≥ 1
  ·rw [if_pos c6] at H
   have c6b0 : decide (1 ≤ a0_0) = true := decide_eq_true c6
   clear c6
   (first | rw [c6b0] | (simp only [i64_w, i32_w]; rw [c6b0]) | skip)
   have H' := Aside0.mk H
   clear H
   have hcz7_0 : w4.cell? ⟨gb115, 0, none⟩ = some (.int .i64 a0_0) := (blk_cell BK115.out 0).trans rfl
   have hcz7_1 : w4.cell? ⟨gb115, 1, none⟩ = some (.int .i64 a0_1) := (blk_cell BK115.out 1).trans rfl
   have hcz7_2 : w4.cell? ⟨gb115, 2, none⟩ = some (.slice A0_2 l0_2.length c0_2) := (blk_cell BK115.out 2).trans rfl
   have hfz7_0 := blk_frozen BK115.out 0
   have hfz7_1 := blk_frozen BK115.out 1
   have hfz7_2 := blk_frozen BK115.out 2
   go_wp2
   go_meet
   case rel => exact ⟨_, (decide (a0_0 ≤ 8)), (by first | rfl | (simp; done) | (simp [*]; done)), H', ⟨by first | omega | exact Nat.le_refl _⟩, ⟨bK⟩, ⟨bB⟩⟩
  ·rw [if_neg c6] at H
   have c6b0 : decide (1 ≤ a0_0) = false := decide_eq_false c6
   clear c6
   (first | rw [c6b0] | (simp only [i64_w, i32_w]; rw [c6b0]) | skip)
   have H' := Aside0.mk H
   clear H
   have hcz8_0 : w4.cell? ⟨gb115, 0, none⟩ = some (.int .i64 a0_0) := (blk_cell BK115.out 0).trans rfl
   have hcz8_1 : w4.cell? ⟨gb115, 1, none⟩ = some (.int .i64 a0_1) := (blk_cell BK115.out 1).trans rfl
   have hcz8_2 : w4.cell? ⟨gb115, 2, none⟩ = some (.slice A0_2 l0_2.length c0_2) := (blk_cell BK115.out 2).trans rfl
   have hfz8_0 := blk_frozen BK115.out 0
   have hfz8_1 := blk_frozen BK115.out 1
   have hfz8_2 := blk_frozen BK115.out 2
   go_wp2
   go_meet
   case rel => exact ⟨_, (false), (by first | rfl | (simp; done) | (simp [*]; done)), H', ⟨by first | omega | exact Nat.le_refl _⟩, ⟨bK⟩, ⟨bB⟩⟩
 case rest =>
  clear HC3
  try clear p2
  try clear c4
  try clear c6
  try clear c6b0
  try clear hcz5_0
  try clear hcz5_1
  try clear hcz5_2
  try clear hcz7_0
  try clear hcz7_1
  try clear hcz7_2
  try clear hcz8_0
  try clear hcz8_1
  try clear hcz8_2
  try clear hfz5_0
  try clear hfz5_1
  try clear hfz5_2
  try clear hfz7_0
  try clear hfz7_1
  try clear hfz7_2
  try clear hfz8_0
  try clear hfz8_1
  try clear hfz8_2
  obtain ⟨kq, x6_2, rfl, HA, HJ2, BK115, HB⟩ := hcut
  cases kq with
  | zero => exact absurd HA.out (by simp [semigroupref04_shaped.j0])
  | succ kj2 =>
   have H := HA.out
   clear HA
   simp only [semigroupref04_shaped.j0] at H
   have HC9 := Aside0.mk H
   clear H
   have hcz10_0 : wc.cell? ⟨gb115, 0, none⟩ = some (.int .i64 a0_0) := (blk_cell BK115.out 0).trans rfl
   have hcz10_1 : wc.cell? ⟨gb115, 1, none⟩ = some (.int .i64 a0_1) := (blk_cell BK115.out 1).trans rfl
   have hcz10_2 : wc.cell? ⟨gb115, 2, none⟩ = some (.slice A0_2 l0_2.length c0_2) := (blk_cell BK115.out 2).trans rfl
   have hfz10_0 := blk_frozen BK115.out 0
   have hfz10_1 := blk_frozen BK115.out 1
   have hfz10_2 := blk_frozen BK115.out 2
   go_upto_block 0 with (fail)
   go_cut [6] (fun v6 wc => ∃ (kq : Nat) (x6_8 : Bool), v6 = .bool x6_8 ∧ Aside0 (semigroupref04_shaped.j2 kq a1 (l0_2.length : Int) x6_8 a0_0 a0_1 l0_2 = some r) ∧ Aside0 (kq ≤ kj2) ∧ Aside0 (wc.heap[gb115]? = some (.cells #[.int .i64 a0_0, .int .i64 a0_1, (.slice A0_2 l0_2.length c0_2)] 24 (0, 0))) ∧ Aside0 (Below w.heap.size w wc))
   case first =>
    have H := HC9.out
    clear HC9
    have HC11 := Aside0.mk H
    clear H
    go_upto_if 26 with (fail)
    go_cut [26] (fun v26 wc => ∃ (kq : Nat) (x26_10 : Bool), v26 = .bool x26_10 ∧ Aside0 (semigroupref04_shaped.j1 kq a1 (l0_2.length : Int) x6_2 a0_0 x26_10 a0_0 a0_1 l0_2 = some r) ∧ Aside0 (kq ≤ kj2) ∧ Aside0 (wc.heap[gb115]? = some (.cells #[.int .i64 a0_0, .int .i64 a0_1, (.slice A0_2 l0_2.length c0_2)] 24 (0, 0))) ∧ Aside0 (Below w.heap.size w wc))
    case first =>
     have H := HC11.out
     clear HC11
     by_cases c12 : a0_0 = 1
     ·rw [if_pos c12] at H
      have c12b0 : (a0_0 == 1) = true := beq_iff_eq.mpr c12
      have c12b1 : (a0_0 != 1) = false := bne_eq_false_iff_eq.mpr c12
      clear c12
      (first | rw [c12b0] | (simp only [i64_w, i32_w]; rw [c12b0]) | skip)
      have H' := Aside0.mk H
      clear H
      go_wp2
      go_meet
      case rel => exact ⟨_, ((a0_0 == 1)), (by first | rfl | (simp; done) | (simp [*]; done)), H', ⟨by have := HJ2.out; first | omega | exact Nat.le_refl _⟩, ⟨bK⟩, ⟨bB⟩⟩
     ·rw [if_neg c12] at H
      have c12b0 : (a0_0 == 1) = false := beq_eq_false_iff_ne.mpr c12
      have c12b1 : (a0_0 != 1) = true := bne_iff_ne.mpr c12
      (first | rw [c12b0] | (simp only [i64_w, i32_w]; rw [c12b0]) | skip)
      by_cases c13 : a0_0 = 2
      ·rw [if_pos c13] at H
       have c13b0 : (a0_0 == 2) = true := beq_iff_eq.mpr c13
       have c13b1 : (a0_0 != 2) = false := bne_eq_false_iff_eq.mpr c13
       clear c13
       have H' := Aside0.mk H
       clear H
       go_wp2
       go_meet
       case rel => exact ⟨_, ((a0_0 == 2)), (by first | rfl | (simp; done) | (simp [*]; done)), H', ⟨by have := HJ2.out; first | omega | exact Nat.le_refl _⟩, ⟨bK⟩, ⟨bB⟩⟩
      ·rw [if_neg c13] at H
       have c13b0 : (a0_0 == 2) = false := beq_eq_false_iff_ne.mpr c13
       have c13b1 : (a0_0 != 2) = true := bne_iff_ne.mpr c13
       have H' := Aside0.mk H
       clear H
       go_wp2
       go_meet
       case rel => exact ⟨_, ((a0_0 == 3)), (by first | rfl | (simp; done) | (simp [*]; done)), H', ⟨by have := HJ2.out; first | omega | exact Nat.le_refl _⟩, ⟨bK⟩, ⟨bB⟩⟩
    case rest =>
     clear HC11
     try clear c1
     try clear p2
     try clear c4
     try clear c6
     try clear c6b0
     try clear c12
     try clear c12b0
     try clear c12b1
     try clear c13
     try clear c13b0
     try clear c13b1
     try clear hcz10_0
     try clear hcz10_1
     try clear hcz10_2
     try clear hcz5_0
     try clear hcz5_1
     try clear hcz5_2
     try clear hcz7_0
     try clear hcz7_1
     try clear hcz7_2
     try clear hcz8_0
     try clear hcz8_1
     try clear hcz8_2
     try clear hfz10_0
     try clear hfz10_1
     try clear hfz10_2
     try clear hfz5_0
     try clear hfz5_1
     try clear hfz5_2
     try clear hfz7_0
     try clear hfz7_1
     try clear hfz7_2
     try clear hfz8_0
     try clear hfz8_1
     try clear hfz8_2
     try clear p2
     obtain ⟨kq, x26_10, rfl, HA, HJ10, BK115, HB⟩ := hcut
     cases kq with
     | zero => exact absurd HA.out (by simp [semigroupref04_shaped.j1])
     | succ kj10 =>
      have H := HA.out
      clear HA
      simp only [semigroupref04_shaped.j1] at H
      by_cases c14 : x26_10 = true
      ·subst c14
       have H1 : (semigroupref04_shaped.j2 kj10 a1 (l0_2.length : Int) ((l0_2.length : Int) == 0) a0_0 a0_1 l0_2) = some r := by rw [if_pos rfl] at H; exact H
       clear H
       have H := H1
       clear H1
       have H' := Aside0.mk H
       clear H
       go_wp2
       go_meet
       case rel => exact ⟨_, (((l0_2.length : Int) == 0)), (by first | rfl | (simp; done) | (simp [*]; done)), H', ⟨by have := HJ2.out; have := HJ10.out; first | omega | exact Nat.le_refl _⟩, ⟨bK⟩, ⟨bB⟩⟩
      ·replace c14 := Bool.eq_false_iff.mpr c14
       subst c14
       have H1 : (if a0_0 = 7 then (semigroupref04_shaped.j2 kj10 a1 (l0_2.length : Int) ((l0_2.length : Int) == 1) a0_0 a0_1 l0_2) else (if a0_0 = 8 then (semigroupref04_shaped.j2 kj10 a1 (l0_2.length : Int) ((l0_2.length : Int) == 1) a0_0 a0_1 l0_2) else (if x6_2 = true then (semigroupref04_shaped.j2 kj10 a1 (l0_2.length : Int) (decide ((l0_2.length : Int) ≥ 2)) a0_0 a0_1 l0_2) else (semigroupref04_shaped.j2 kj10 a1 (l0_2.length : Int) false a0_0 a0_1 l0_2)))) = some r := by rw [if_neg (show ¬ (false = true) by decide)] at H; exact H
       clear H
       have H := H1
       clear H1
       by_cases c15 : a0_0 = 7
       ·rw [if_pos c15] at H
        have c15b0 : (a0_0 == 7) = true := beq_iff_eq.mpr c15
        have c15b1 : (a0_0 != 7) = false := bne_eq_false_iff_eq.mpr c15
        clear c15
        have H' := Aside0.mk H
        clear H
        go_wp2
        go_meet
        case rel => exact ⟨_, (((l0_2.length : Int) == 1)), (by first | rfl | (simp; done) | (simp [*]; done)), H', ⟨by have := HJ2.out; have := HJ10.out; first | omega | exact Nat.le_refl _⟩, ⟨bK⟩, ⟨bB⟩⟩
       ·rw [if_neg c15] at H
        have c15b0 : (a0_0 == 7) = false := beq_eq_false_iff_ne.mpr c15
        have c15b1 : (a0_0 != 7) = true := bne_iff_ne.mpr c15
        by_cases c16 : a0_0 = 8
        ·rw [if_pos c16] at H
         have c16b0 : (a0_0 == 8) = true := beq_iff_eq.mpr c16
         have c16b1 : (a0_0 != 8) = false := bne_eq_false_iff_eq.mpr c16
         clear c16
         have H' := Aside0.mk H
         clear H
         go_wp2
         go_meet
         case rel => exact ⟨_, (((l0_2.length : Int) == 1)), (by first | rfl | (simp; done) | (simp [*]; done)), H', ⟨by have := HJ2.out; have := HJ10.out; first | omega | exact Nat.le_refl _⟩, ⟨bK⟩, ⟨bB⟩⟩
        ·rw [if_neg c16] at H
         have c16b0 : (a0_0 == 8) = false := beq_eq_false_iff_ne.mpr c16
         have c16b1 : (a0_0 != 8) = true := bne_iff_ne.mpr c16
         by_cases c17 : x6_2 = true
         ·subst c17
          have H1 : (semigroupref04_shaped.j2 kj10 a1 (l0_2.length : Int) (decide ((l0_2.length : Int) ≥ 2)) a0_0 a0_1 l0_2) = some r := by rw [if_pos rfl] at H; exact H
          clear H
          have H := H1
          clear H1
          have H' := Aside0.mk H
          clear H
          go_wp2
          go_meet
          case rel => exact ⟨_, (decide ((l0_2.length : Int) ≥ 2)), (by first | rfl | (simp; done) | (simp [*]; done)), H', ⟨by have := HJ2.out; have := HJ10.out; first | omega | exact Nat.le_refl _⟩, ⟨bK⟩, ⟨bB⟩⟩
         ·replace c17 := Bool.eq_false_iff.mpr c17
          subst c17
          have H1 : (semigroupref04_shaped.j2 kj10 a1 (l0_2.length : Int) false a0_0 a0_1 l0_2) = some r := by rw [if_neg (show ¬ (false = true) by decide)] at H; exact H
          clear H
          have H := H1
          clear H1
          have H' := Aside0.mk H
          clear H
          go_wp2
          go_meet
          case rel => exact ⟨_, (false), (by first | rfl | (simp; done) | (simp [*]; done)), H', ⟨by have := HJ2.out; have := HJ10.out; first | omega | exact Nat.le_refl _⟩, ⟨bK⟩, ⟨bB⟩⟩
   case rest =>
    clear HC9
    try clear c1
    try clear p2
    try clear c4
    try clear c6
    try clear c6b0
    try clear c12
    try clear c12b0
    try clear c12b1
    try clear c13
    try clear c13b0
    try clear c13b1
    try clear c14
    try clear c15
    try clear c15b0
    try clear c15b1
    try clear c16
    try clear c16b0
    try clear c16b1
    try clear c17
    try clear hcz10_0
    try clear hcz10_1
    try clear hcz10_2
    try clear hcz5_0
    try clear hcz5_1
    try clear hcz5_2
    try clear hcz7_0
    try clear hcz7_1
    try clear hcz7_2
    try clear hcz8_0
    try clear hcz8_1
    try clear hcz8_2
    try clear hfz10_0
    try clear hfz10_1
    try clear hfz10_2
    try clear hfz5_0
    try clear hfz5_1
    try clear hfz5_2
    try clear hfz7_0
    try clear hfz7_1
    try clear hfz7_2
    try clear hfz8_0
    try clear hfz8_1
    try clear hfz8_2
    try clear p2
    obtain ⟨kq, x6_8, rfl, HA, HJ8, BK115, HB⟩ := hcut
    cases kq with
    | zero => exact absurd HA.out (by simp [semigroupref04_shaped.j2])
    | succ kj8 =>
     have H := HA.out
     clear HA
     simp only [semigroupref04_shaped.j2] at H
     have HC18 := Aside0.mk H
     clear H
     have hcz19_0 : wc.cell? ⟨gb115, 0, none⟩ = some (.int .i64 a0_0) := (blk_cell BK115.out 0).trans rfl
     have hcz19_1 : wc.cell? ⟨gb115, 1, none⟩ = some (.int .i64 a0_1) := (blk_cell BK115.out 1).trans rfl
     have hcz19_2 : wc.cell? ⟨gb115, 2, none⟩ = some (.slice A0_2 l0_2.length c0_2) := (blk_cell BK115.out 2).trans rfl
     have hfz19_0 := blk_frozen BK115.out 0
     have hfz19_1 := blk_frozen BK115.out 1
     have hfz19_2 := blk_frozen BK115.out 2
     go_upto_if 39 with (fail)
     go_cut [6] (fun v6 wc => ∃ (kq : Nat) (x6_17 : Bool), v6 = .bool x6_17 ∧ Aside0 (semigroupref04_shaped.j3 kq a1 (l0_2.length : Int) x6_17 a0_0 a0_1 l0_2 = some r) ∧ Aside0 (kq ≤ kj8) ∧ Aside0 (wc.heap[gb115]? = some (.cells #[.int .i64 a0_0, .int .i64 a0_1, (.slice A0_2 l0_2.length c0_2)] 24 (0, 0))) ∧ Aside0 (Below w.heap.size w wc))
     case first =>
      have H := HC18.out
      clear HC18
      by_cases c20 : a0_0 = 3
      ·rw [if_pos c20] at H
       have c20b0 : (a0_0 == 3) = true := beq_iff_eq.mpr c20
       have c20b1 : (a0_0 != 3) = false := bne_eq_false_iff_eq.mpr c20
       clear c20
       (first | rw [c20b0] | (simp only [i64_w, i32_w]; rw [c20b0]) | skip)
       by_cases c21 : x6_8 = true
       ·subst c21
        have H1 : (if a0_1 ≥ 0 then (semigroupref04_shaped.j3 kj8 a1 (l0_2.length : Int) (decide (a0_1 < a1)) a0_0 a0_1 l0_2) else (semigroupref04_shaped.j3 kj8 a1 (l0_2.length : Int) false a0_0 a0_1 l0_2)) = some r := by rw [if_pos rfl] at H; exact H
        clear H
        have H := H1
        clear H1
        by_cases c22 : a0_1 ≥ 0
        ·rw [if_pos c22] at H
         have c22b0 : decide (0 ≤ a0_1) = true := decide_eq_true c22
         clear c22
         have H' := Aside0.mk H
         clear H
         have hcz23_0 : wc.cell? ⟨gb115, 0, none⟩ = some (.int .i64 a0_0) := (blk_cell BK115.out 0).trans rfl
         have hcz23_1 : wc.cell? ⟨gb115, 1, none⟩ = some (.int .i64 a0_1) := (blk_cell BK115.out 1).trans rfl
         have hcz23_2 : wc.cell? ⟨gb115, 2, none⟩ = some (.slice A0_2 l0_2.length c0_2) := (blk_cell BK115.out 2).trans rfl
         have hfz23_0 := blk_frozen BK115.out 0
         have hfz23_1 := blk_frozen BK115.out 1
         have hfz23_2 := blk_frozen BK115.out 2
         go_wp2
         go_meet
         case rel => exact ⟨_, (decide (a0_1 < a1)), (by first | rfl | (simp; done) | (simp [*]; done)), H', ⟨by have := HJ2.out; have := HJ8.out; first | omega | exact Nat.le_refl _⟩, ⟨bK⟩, ⟨bB⟩⟩
        ·rw [if_neg c22] at H
         have c22b0 : decide (0 ≤ a0_1) = false := decide_eq_false c22
         clear c22
         have H' := Aside0.mk H
         clear H
         have hcz24_0 : wc.cell? ⟨gb115, 0, none⟩ = some (.int .i64 a0_0) := (blk_cell BK115.out 0).trans rfl
         have hcz24_1 : wc.cell? ⟨gb115, 1, none⟩ = some (.int .i64 a0_1) := (blk_cell BK115.out 1).trans rfl
         have hcz24_2 : wc.cell? ⟨gb115, 2, none⟩ = some (.slice A0_2 l0_2.length c0_2) := (blk_cell BK115.out 2).trans rfl
         have hfz24_0 := blk_frozen BK115.out 0
         have hfz24_1 := blk_frozen BK115.out 1
         have hfz24_2 := blk_frozen BK115.out 2
         go_wp2
         go_meet
         case rel => exact ⟨_, (false), (by first | rfl | (simp; done) | (simp [*]; done)), H', ⟨by have := HJ2.out; have := HJ8.out; first | omega | exact Nat.le_refl _⟩, ⟨bK⟩, ⟨bB⟩⟩
       ·replace c21 := Bool.eq_false_iff.mpr c21
        subst c21
        have H1 : (semigroupref04_shaped.j3 kj8 a1 (l0_2.length : Int) false a0_0 a0_1 l0_2) = some r := by rw [if_neg (show ¬ (false = true) by decide)] at H; exact H
        clear H
        have H := H1
        clear H1
        have H' := Aside0.mk H
        clear H
        go_wp2
        go_meet
        case rel => exact ⟨_, (false), (by first | rfl | (simp; done) | (simp [*]; done)), H', ⟨by have := HJ2.out; have := HJ8.out; first | omega | exact Nat.le_refl _⟩, ⟨bK⟩, ⟨bB⟩⟩
      ·rw [if_neg c20] at H
       have c20b0 : (a0_0 == 3) = false := beq_eq_false_iff_ne.mpr c20
       have c20b1 : (a0_0 != 3) = true := bne_iff_ne.mpr c20
       (first | rw [c20b0] | (simp only [i64_w, i32_w]; rw [c20b0]) | skip)
       by_cases c25 : x6_8 = true
       ·subst c25
        have H1 : (semigroupref04_shaped.j3 kj8 a1 (l0_2.length : Int) (a0_1 == 0) a0_0 a0_1 l0_2) = some r := by rw [if_pos rfl] at H; exact H
        clear H
        have H := H1
        clear H1
        have H' := Aside0.mk H
        clear H
        have hcz26_0 : wc.cell? ⟨gb115, 0, none⟩ = some (.int .i64 a0_0) := (blk_cell BK115.out 0).trans rfl
        have hcz26_1 : wc.cell? ⟨gb115, 1, none⟩ = some (.int .i64 a0_1) := (blk_cell BK115.out 1).trans rfl
        have hcz26_2 : wc.cell? ⟨gb115, 2, none⟩ = some (.slice A0_2 l0_2.length c0_2) := (blk_cell BK115.out 2).trans rfl
        have hfz26_0 := blk_frozen BK115.out 0
        have hfz26_1 := blk_frozen BK115.out 1
        have hfz26_2 := blk_frozen BK115.out 2
        go_wp2
        go_meet
        case rel => exact ⟨_, ((a0_1 == 0)), (by first | rfl | (simp; done) | (simp [*]; done)), H', ⟨by have := HJ2.out; have := HJ8.out; first | omega | exact Nat.le_refl _⟩, ⟨bK⟩, ⟨bB⟩⟩
       ·replace c25 := Bool.eq_false_iff.mpr c25
        subst c25
        have H1 : (semigroupref04_shaped.j3 kj8 a1 (l0_2.length : Int) false a0_0 a0_1 l0_2) = some r := by rw [if_neg (show ¬ (false = true) by decide)] at H; exact H
        clear H
        have H := H1
        clear H1
        have H' := Aside0.mk H
        clear H
        go_wp2
        go_meet
        case rel => exact ⟨_, (false), (by first | rfl | (simp; done) | (simp [*]; done)), H', ⟨by have := HJ2.out; have := HJ8.out; first | omega | exact Nat.le_refl _⟩, ⟨bK⟩, ⟨bB⟩⟩
     case rest =>
      clear HC18
      try clear c1
      try clear c2
      try clear p2
      try clear c4
      try clear c6
      try clear c6b0
      try clear c12
      try clear c12b0
      try clear c12b1
      try clear c13
      try clear c13b0
      try clear c13b1
      try clear c14
      try clear c15
      try clear c15b0
      try clear c15b1
      try clear c16
      try clear c16b0
      try clear c16b1
      try clear c17
      try clear c20
      try clear c20b0
      try clear c20b1
      try clear c21
      try clear c22
      try clear c22b0
      try clear c25
      try clear hcz10_0
      try clear hcz10_1
      try clear hcz10_2
      try clear hcz19_0
      try clear hcz19_1
      try clear hcz19_2
      try clear hcz23_0
      try clear hcz23_1
      try clear hcz23_2
      try clear hcz24_0
      try clear hcz24_1
      try clear hcz24_2
      try clear hcz26_0
      try clear hcz26_1
      try clear hcz26_2
      try clear hcz5_0
      try clear hcz5_1
      try clear hcz5_2
      try clear hcz7_0
      try clear hcz7_1
      try clear hcz7_2
      try clear hcz8_0
      try clear hcz8_1
      try clear hcz8_2
      try clear hfz10_0
      try clear hfz10_1
      try clear hfz10_2
      try clear hfz19_0
      try clear hfz19_1
      try clear hfz19_2
      try clear hfz23_0
      try clear hfz23_1
      try clear hfz23_2
      try clear hfz24_0
      try clear hfz24_1
      try clear hfz24_2
      try clear hfz26_0
      try clear hfz26_1
      try clear hfz26_2
      try clear hfz5_0
      try clear hfz5_1
      try clear hfz5_2
      try clear hfz7_0
      try clear hfz7_1
      try clear hfz7_2
      try clear hfz8_0
      try clear hfz8_1
      try clear hfz8_2
      try clear p2
      obtain ⟨kq, x6_17, rfl, HA, HJ17, BK115, HB⟩ := hcut
      cases kq with
      | zero => exact absurd HA.out (by simp [semigroupref04_shaped.j3])
      | succ kj17 =>
       have H := HA.out
       clear HA
       simp only [semigroupref04_shaped.j3] at H
       have H' := Aside0.mk H
       clear H
       go_wp2
       go_loopg [6, 7] kj17 (fun kq v6 v7 w' => ∃ (x6_4 : Bool) (x7_4 : Int), v6 = .bool x6_4 ∧ v7 = .int .i64 x7_4 ∧ Aside0 (semigroupref04_shaped.l0 kq a1 (l0_2.length : Int) x6_4 x7_4 a0_0 a0_1 l0_2 = some r) ∧ Aside0 (kq ≤ kj17) ∧ Aside0 (w'.heap[gb115]? = some (.cells #[.int .i64 a0_0, .int .i64 a0_1, (.slice A0_2 l0_2.length c0_2)] 24 (0, 0))) ∧ Aside0 (Below w.heap.size w w'))
       case atStart => exact ⟨(x6_17), (0), (by first | rfl | (simp; done) | (simp [*]; done)), (by first | rfl | (simp; done) | (simp [*]; done)), H', ⟨Nat.le_refl _⟩, ⟨bK⟩, ⟨bB⟩⟩
       case round =>
        clear H'
        try clear c1
        try clear c2
        try clear p2
        try clear c4
        try clear c6
        try clear c6b0
        try clear c12
        try clear c12b0
        try clear c12b1
        try clear c13
        try clear c13b0
        try clear c13b1
        try clear c14
        try clear c15
        try clear c15b0
        try clear c15b1
        try clear c16
        try clear c16b0
        try clear c16b1
        try clear c17
        try clear c20
        try clear c20b0
        try clear c20b1
        try clear c21
        try clear c22
        try clear c22b0
        try clear c25
        try clear hcz10_0
        try clear hcz10_1
        try clear hcz10_2
        try clear hcz19_0
        try clear hcz19_1
        try clear hcz19_2
        try clear hcz23_0
        try clear hcz23_1
        try clear hcz23_2
        try clear hcz24_0
        try clear hcz24_1
        try clear hcz24_2
        try clear hcz26_0
        try clear hcz26_1
        try clear hcz26_2
        try clear hcz5_0
        try clear hcz5_1
        try clear hcz5_2
        try clear hcz7_0
        try clear hcz7_1
        try clear hcz7_2
        try clear hcz8_0
        try clear hcz8_1
        try clear hcz8_2
        try clear hfz10_0
        try clear hfz10_1
        try clear hfz10_2
        try clear hfz19_0
        try clear hfz19_1
        try clear hfz19_2
        try clear hfz23_0
        try clear hfz23_1
        try clear hfz23_2
        try clear hfz24_0
        try clear hfz24_1
        try clear hfz24_2
        try clear hfz26_0
        try clear hfz26_1
        try clear hfz26_2
        try clear hfz5_0
        try clear hfz5_1
        try clear hfz5_2
        try clear hfz7_0
        try clear hfz7_1
        try clear hfz7_2
        try clear hfz8_0
        try clear hfz8_1
        try clear hfz8_2
        try clear p2
        obtain ⟨x6_4, x7_4, rfl, rfl, HA, HK4, BK115, HB⟩ := hrel
        cases gk with
        | zero => exact absurd HA.out (by simp [semigroupref04_shaped.l0])
        | succ k4 =>
         have H := HA.out
         clear HA
         simp only [semigroupref04_shaped.l0] at H
         by_cases c27 : x7_4 < (l0_2.length : Int)
         ·rw [if_pos c27] at H
          have c27b0 : decide (x7_4 < (l0_2.length : Int)) = true := decide_eq_true c27
          clear c27
          by_cases c28 : x6_4 = true
          ·subst c28
           have H1 : (if 0 ≤ x7_4 then (if x7_4 < (l0_2.length : Int) then ((semigroupref04_shaped.f k4 ((rd_T24 l0_2 x7_4).f0) ((rd_T24 l0_2 x7_4).f1) ((rd_T24 l0_2 x7_4).f2) a1).bind fun t117 => (semigroupref04_shaped.l0 k4 a1 (l0_2.length : Int) t117 (wrap64 (x7_4 + 1)) a0_0 a0_1 l0_2)) else (none)) else (none)) = some r := by rw [if_pos rfl] at H; exact H
           clear H
           have H := H1
           clear H1
           by_cases c29 : 0 ≤ x7_4
           ·rw [if_pos c29] at H
            have c29b0 : decide (0 ≤ x7_4) = true := decide_eq_true c29
            clear c29
            by_cases c30 : x7_4 < (l0_2.length : Int)
            ·rw [if_pos c30] at H
             have c30b0 : decide (x7_4 < (l0_2.length : Int)) = true := decide_eq_true c30
             clear c30
             replace H := Option.bind_eq_some_iff.mp H
             obtain ⟨t117, A310, H⟩ := H
             replace H : (semigroupref04_shaped.l0 k4 a1 (l0_2.length : Int) t117 (wrap64 (x7_4 + 1)) a0_0 a0_1 l0_2) = some r := H
             have A31 := Aside0.mk A310
             clear A310
             have H' := Aside0.mk H
             clear H
             have hcz32_0 : wr.cell? ⟨gb115, 0, none⟩ = some (.int .i64 a0_0) := (blk_cell BK115.out 0).trans rfl
             have hcz32_1 : wr.cell? ⟨gb115, 1, none⟩ = some (.int .i64 a0_1) := (blk_cell BK115.out 1).trans rfl
             have hcz32_2 : wr.cell? ⟨gb115, 2, none⟩ = some (.slice A0_2 l0_2.length c0_2) := (blk_cell BK115.out 2).trans rfl
             have hfz32_0 := blk_frozen BK115.out 0
             have hfz32_1 := blk_frozen BK115.out 1
             have hfz32_2 := blk_frozen BK115.out 2
             have p116 : 0 ≤ (x7_4 : Int) := of_decide_eq_true (by first | (with_reducible assumption) | assumption)
             have q116 : x7_4 < (l0_2.length : Int) := of_decide_eq_true (by first | (with_reducible assumption) | assumption)
             obtain ⟨ad116, A116_2, c116_2, e116, hx116_0, hx116_1, hx116_2, hl116_2, hi116_2⟩ := at_T24 HR0_2.out x7_4 p116 q116
             cases e116
             replace hx116_0 := (HB.out.cell (World.block_lt_of_cell? w _ hx116_0)).trans hx116_0
             replace hx116_1 := (HB.out.cell (World.block_lt_of_cell? w _ hx116_1)).trans hx116_1
             replace hx116_2 := (HB.out.cell (World.block_lt_of_cell? w _ hx116_2)).trans hx116_2
             have HR116_2 := Aside0.mk hi116_2
             have HC116_2 := Aside0.mk hl116_2
             clear hi116_2 hl116_2
             replace p116 := eq_true p116
             replace q116 := eq_true q116
             go_wp2_with (first | ((with_reducible refine gate_callee (f := 45) rfl ?_); refine goesL_ (some 72) rfl rfl Try.func45 (by kernel_rfl) rfl #[.agg #[.int .i64 ((rd_T24 l0_2 x7_4).f0), .int .i64 ((rd_T24 l0_2 x7_4).f1), .slice A116_2 ((rd_T24 l0_2 x7_4).f2).length c116_2], .int .i64 a1] rfl (by (try simp only [List.map_toArray, List.map_cons, List.map_nil]); first | done | rfl | (simp only [List.length_drop, List.length_take]; rfl) | (simp only [Int.ofNat_lt, Int.ofNat_le]; rfl)) ?_; (with_reducible refine (ih k4 (by have := HJ2.out; have := HJ8.out; have := HJ17.out; have := HK4.out; omega) ((rd_T24 l0_2 x7_4).f0) ((rd_T24 l0_2 x7_4).f1) _ _ ((rd_T24 l0_2 x7_4).f2) a1 t117 _ ?side1 ?side2 A31.out).mono ?_); (case side1 => repeat (first | exact (Kd.C_below HR116_2.out HB.out) | (with_reducible refine Kd.C_alloc ?_ _) | (with_reducible refine Kd.C_drewN ?_ _) | (with_reducible refine Kd.C_drew ?_))); (case side2 => exact HC116_2.out); rintro e w33 ⟨rfl, hb⟩; refine ⟨_, rfl, ?_⟩; have n0_ := Aside0.mk (blk_below (g := gb115) (o := .cells #[.int .i64 a0_0, .int .i64 a0_1, .slice (some ad116) l0_2.length c0_2] 24 (0, 0)) (bK) hb); have n1_ := Aside0.mk (below_step (bB) hb); clear BK115; clear HB; have BK115 := n0_; have HB := n1_; clear n0_ n1_; (try clear hb); (try clear hb2); (try clear hk); (try clear hi)))
             (first | go_roundg k4 | ((simp only [add_plain] at *); go_roundg k4))
             case measure => have := HJ2.out; have := HJ8.out; have := HJ17.out; have := HK4.out; omega
             case rel => exact ⟨(t117), (wrap64 (x7_4 + 1)), (by first | rfl | (simp; done) | (simp [*]; done)), (by first | rfl | (simp; done) | (simp [*]; done)), H', ⟨by have := HJ2.out; have := HJ8.out; have := HJ17.out; have := HK4.out; omega⟩, ⟨bK⟩, ⟨bB⟩⟩
            ·rw [if_neg c30] at H
             exact absurd H (by simp)
           ·rw [if_neg c29] at H
            exact absurd H (by simp)
          ·replace c28 := Bool.eq_false_iff.mpr c28
           subst c28
           have H1 : (some false) = some r := by rw [if_neg (show ¬ (false = true) by decide)] at H; exact H
           clear H
           have H := H1
           clear H1
           obtain rfl := Option.some.inj H
           go_wp2
           go_ret
           exact ⟨by first | rfl | (simp [errW_none, errW_some] <;> rfl) | (simp [*, errW_none, errW_some] <;> rfl), bB⟩
         ·rw [if_neg c27] at H
          have c27b0 : decide (x7_4 < (l0_2.length : Int)) = false := decide_eq_false c27
          clear c27
          obtain rfl := Option.some.inj H
          go_wp2
          go_ret
          exact ⟨by first | rfl | (simp [errW_none, errW_some] <;> rfl) | (simp [*, errW_none, errW_some] <;> rfl), bB⟩
end Go.Proofs.Ytjofkebiacaciaa.PAll
end
section
namespace Go.Proofs.Ytjofkebiacaciaa.PAll
open Go.RowKit Go.Proofs.YtjofkebiacaciaaW.PrintWords Go.Proofs.YtjofkebiacaciaaW.PrintLast Go.Proofs.YtjofkebiacaciaaW.PrintMore
attribute [local go_sem] max2_int min2_int max_two min_two max_three min_three max_four min_four
set_option linter.unusedVariables false
set_option linter.unusedSimpArgs false
def semigroupref04_Validate.f (k : Nat) (a0_0 : Int) (a0_1 : Int) (l0_2 : List (S24)) (a1 : Int) : Option (Int) := (semigroupref01_MayLetters.f a1).bind fun t119 => (if t119 = true then ((semigroupref04_Within.f k a0_0 a0_1 l0_2).bind fun t120 => (if t120 = true then ((semigroupref04_shaped.f k a0_0 a0_1 l0_2 a1).bind fun t121 => (if t121 = true then (some 0) else (some 4))) else (some 3))) else (some 1))
theorem semigroupref04_Validate.mono : ∀ a0 a1 a2 a3 k, LeO (semigroupref04_Validate.f k a0 a1 a2 a3) (semigroupref04_Validate.f (k + 1) a0 a1 a2 a3) := by
 intro a0 a1 a2 a3 k
 unfold semigroupref04_Validate.f
 repeat' first
   | (with_reducible exact semigroupref04_Within.mono _ _ _ _)
   | (with_reducible exact semigroupref04_shaped.mono _ _ _ _ _)
   | (with_reducible exact LeO.refl _)
   | (with_reducible exact LeO.none _)
   | (with_reducible refine LeO.ite ?_ ?_)
   | (with_reducible refine LeO.bind ?_ (fun _ => ?_))
   | exact semigroupref04_Within.mono _ _ _ _
   | exact semigroupref04_shaped.mono _ _ _ _ _
   | exact LeO.none _
   | refine LeO.ite ?_ ?_
   | refine LeO.bind ?_ (fun _ => ?_)
set_option maxHeartbeats 8000000 in
set_option maxRecDepth 100000 in
theorem semigroupref04_Validate.calls (k : Nat) (a0_0 : Int) (a0_1 : Int) (A0_2 : Option Addr) (c0_2 : Nat) (l0_2 : List (S24)) (a1 : Int) (r : Int) (w : World) (hr0_2 : Kd.C k24 w A0_2 l0_2.length l0_2) (hc0_2 : l0_2.length ≤ c0_2) (h : semigroupref04_Validate.f k a0_0 a0_1 l0_2 a1 = some r) :
  Calls Try.prog 16 #[.agg #[.int .i64 a0_0, .int .i64 a0_1, .slice A0_2 l0_2.length c0_2], .int .i64 a1] w fun e w' => e = .returned (.int .i64 r) ∧ Below w.heap.size w w' := by
 have hu24 := Try.underlying24
 have HR0_2 := Aside0.mk hr0_2
 have HC0_2 := Aside0.mk hc0_2
 clear hr0_2 hc0_2
 have HB := Aside0.mk (Below.refl w.heap.size w)
 have H : ((semigroupref01_MayLetters.f a1).bind fun t119 => (if t119 = true then ((semigroupref04_Within.f k a0_0 a0_1 l0_2).bind fun t120 => (if t120 = true then ((semigroupref04_shaped.f k a0_0 a0_1 l0_2 a1).bind fun t121 => (if t121 = true then (some 0) else (some 4))) else (some 3))) else (some 1))) = some r := h
 clear h
 replace H := Option.bind_eq_some_iff.mp H
 obtain ⟨t119, A30, H⟩ := H
 replace H : (if t119 = true then ((semigroupref04_Within.f k a0_0 a0_1 l0_2).bind fun t120 => (if t120 = true then ((semigroupref04_shaped.f k a0_0 a0_1 l0_2 a1).bind fun t121 => (if t121 = true then (some 0) else (some 4))) else (some 3))) else (some 1)) = some r := H
 have A3 := Aside0.mk A30
 clear A30
 by_cases c4 : t119 = true
 ·subst c4
  have H1 : ((semigroupref04_Within.f k a0_0 a0_1 l0_2).bind fun t120 => (if t120 = true then ((semigroupref04_shaped.f k a0_0 a0_1 l0_2 a1).bind fun t121 => (if t121 = true then (some 0) else (some 4))) else (some 3))) = some r := by rw [if_pos rfl] at H; exact H
  clear H
  have H := H1
  clear H1
  replace H := Option.bind_eq_some_iff.mp H
  obtain ⟨t120, A50, H⟩ := H
  replace H : (if t120 = true then ((semigroupref04_shaped.f k a0_0 a0_1 l0_2 a1).bind fun t121 => (if t121 = true then (some 0) else (some 4))) else (some 3)) = some r := H
  have A5 := Aside0.mk A50
  clear A50
  by_cases c6 : t120 = true
  ·subst c6
   have H1 : ((semigroupref04_shaped.f k a0_0 a0_1 l0_2 a1).bind fun t121 => (if t121 = true then (some 0) else (some 4))) = some r := by rw [if_pos rfl] at H; exact H
   clear H
   have H := H1
   clear H1
   replace H := Option.bind_eq_some_iff.mp H
   obtain ⟨t121, A70, H⟩ := H
   replace H : (if t121 = true then (some 0) else (some 4)) = some r := H
   have A7 := Aside0.mk A70
   clear A70
   by_cases c8 : t121 = true
   ·subst c8
    have H1 : (some 0) = some r := by rw [if_pos rfl] at H; exact H
    clear H
    have H := H1
    clear H1
    obtain rfl := Option.some.inj H
    go_enter Try.func16, Try.ntmps16
    go_wp2_with (first | ((with_reducible refine gate_dst (N := 2) rfl ?_); refine box_event ?hg (N := 2) ?hd (cs := #[.int .i64 a0_0, .int .i64 a0_1, .slice A0_2 l0_2.length c0_2]) (t := 24) ?hr ?_; (case hd => rfl); (case hg => rfl); (case hr => first | (go_simp; done) | (go_simp; rfl)); intro gb118 hg w9 hbox hb; have n0_ := Aside0.mk (below_step (bB) hb); have n1_ := Aside0.mk (hbox); have n2_ := Aside0.mk ((by rw [hg]; exact (below_size (bB)) : w.heap.size ≤ gb118)); have n3_ := Aside0.mk ((by rw [hg]; exact (below_size (bB)) : w.heap.size ≤ gb118)); clear HB; have HB := n0_; have BK118 := n1_; have GW118 := n2_; have GE118 := n3_; clear n0_ n1_ n2_ n3_; clear hb hbox hg) | ((with_reducible refine gate_callee (f := 43) rfl ?_); refine goesL_ (some 7) rfl rfl Try.func43 (by kernel_rfl) rfl #[.int .i64 a1] rfl (by (try simp only [List.map_toArray, List.map_cons, List.map_nil]); first | done | rfl | (simp only [List.length_drop, List.length_take]; rfl) | (simp only [Int.ofNat_lt, Int.ofNat_le]; rfl)) ?_; (with_reducible refine (semigroupref01_MayLetters.calls a1 true _ A3.out).mono ?_); rintro e w' ⟨rfl, ⟨nd, rfl⟩⟩; refine ⟨_, rfl, ?_⟩; have hcz10_0 : w9.cell? ⟨gb118, 0, none⟩ = some (.int .i64 a0_0) := (blk_cell BK118.out 0).trans rfl; have hcz10_1 : w9.cell? ⟨gb118, 1, none⟩ = some (.int .i64 a0_1) := (blk_cell BK118.out 1).trans rfl; have hcz10_2 : w9.cell? ⟨gb118, 2, none⟩ = some (.slice A0_2 l0_2.length c0_2) := (blk_cell BK118.out 2).trans rfl; have hfz10_0 := blk_frozen BK118.out 0; have hfz10_1 := blk_frozen BK118.out 1; have hfz10_2 := blk_frozen BK118.out 2) | ((with_reducible refine gate_callee (f := 44) rfl ?_); refine goesL_ (some 11) rfl rfl Try.func44 (by kernel_rfl) rfl #[.agg #[.int .i64 a0_0, .int .i64 a0_1, .slice A0_2 l0_2.length c0_2]] rfl (by (try simp only [List.map_toArray, List.map_cons, List.map_nil]); first | done | rfl | (simp only [List.length_drop, List.length_take]; rfl) | (simp only [Int.ofNat_lt, Int.ofNat_le]; rfl)) ?_; (with_reducible refine (semigroupref04_Within.calls k a0_0 a0_1 _ _ l0_2 true _ ?side1 ?side2 A5.out).mono ?_); (case side1 => repeat (first | exact (Kd.C_below HR0_2.out (bB)) | (with_reducible refine Kd.C_alloc ?_ _) | (with_reducible refine Kd.C_drewN ?_ _) | (with_reducible refine Kd.C_drew ?_))); (case side2 => exact HC0_2.out); rintro e w11 ⟨rfl, hb⟩; refine ⟨_, rfl, ?_⟩; have n0_ := Aside0.mk (blk_below (g := gb118) (o := .cells #[.int .i64 a0_0, .int .i64 a0_1, .slice A0_2 l0_2.length c0_2] 24 (0, 0)) (bK) hb); have n1_ := Aside0.mk (below_step (bB) hb); clear BK118; clear HB; have BK118 := n0_; have HB := n1_; clear n0_ n1_; (try clear hb); (try clear hb2); (try clear hk); (try clear hi); have hcz12_0 : w11.cell? ⟨gb118, 0, none⟩ = some (.int .i64 a0_0) := (blk_cell BK118.out 0).trans rfl; have hcz12_1 : w11.cell? ⟨gb118, 1, none⟩ = some (.int .i64 a0_1) := (blk_cell BK118.out 1).trans rfl; have hcz12_2 : w11.cell? ⟨gb118, 2, none⟩ = some (.slice A0_2 l0_2.length c0_2) := (blk_cell BK118.out 2).trans rfl; have hfz12_0 := blk_frozen BK118.out 0; have hfz12_1 := blk_frozen BK118.out 1; have hfz12_2 := blk_frozen BK118.out 2) | ((with_reducible refine gate_callee (f := 45) rfl ?_); refine goesL_ (some 16) rfl rfl Try.func45 (by kernel_rfl) rfl #[.agg #[.int .i64 a0_0, .int .i64 a0_1, .slice A0_2 l0_2.length c0_2], .int .i64 a1] rfl (by (try simp only [List.map_toArray, List.map_cons, List.map_nil]); first | done | rfl | (simp only [List.length_drop, List.length_take]; rfl) | (simp only [Int.ofNat_lt, Int.ofNat_le]; rfl)) ?_; (with_reducible refine (semigroupref04_shaped.calls k a0_0 a0_1 _ _ l0_2 a1 true _ ?side1 ?side2 A7.out).mono ?_); (case side1 => repeat (first | exact (Kd.C_below HR0_2.out HB.out) | (with_reducible refine Kd.C_alloc ?_ _) | (with_reducible refine Kd.C_drewN ?_ _) | (with_reducible refine Kd.C_drew ?_))); (case side2 => exact HC0_2.out); rintro e w13 ⟨rfl, hb⟩; refine ⟨_, rfl, ?_⟩; have n0_ := Aside0.mk (blk_below (g := gb118) (o := .cells #[.int .i64 a0_0, .int .i64 a0_1, .slice A0_2 l0_2.length c0_2] 24 (0, 0)) (bK) hb); have n1_ := Aside0.mk (below_step (bB) hb); clear BK118; clear HB; have BK118 := n0_; have HB := n1_; clear n0_ n1_; (try clear hb); (try clear hb2); (try clear hk); (try clear hi)))
    go_ret
    exact ⟨by first | rfl | (simp [errW_none, errW_some] <;> rfl) | (simp [*, errW_none, errW_some] <;> rfl), bB⟩
   ·replace c8 := Bool.eq_false_iff.mpr c8
    subst c8
    have H1 : (some 4) = some r := by rw [if_neg (show ¬ (false = true) by decide)] at H; exact H
    clear H
    have H := H1
    clear H1
    obtain rfl := Option.some.inj H
    go_enter Try.func16, Try.ntmps16
    go_wp2_with (first | ((with_reducible refine gate_dst (N := 2) rfl ?_); refine box_event ?hg (N := 2) ?hd (cs := #[.int .i64 a0_0, .int .i64 a0_1, .slice A0_2 l0_2.length c0_2]) (t := 24) ?hr ?_; (case hd => rfl); (case hg => rfl); (case hr => first | (go_simp; done) | (go_simp; rfl)); intro gb118 hg w14 hbox hb; have n0_ := Aside0.mk (below_step (bB) hb); have n1_ := Aside0.mk (hbox); have n2_ := Aside0.mk ((by rw [hg]; exact (below_size (bB)) : w.heap.size ≤ gb118)); have n3_ := Aside0.mk ((by rw [hg]; exact (below_size (bB)) : w.heap.size ≤ gb118)); clear HB; have HB := n0_; have BK118 := n1_; have GW118 := n2_; have GE118 := n3_; clear n0_ n1_ n2_ n3_; clear hb hbox hg) | ((with_reducible refine gate_callee (f := 43) rfl ?_); refine goesL_ (some 7) rfl rfl Try.func43 (by kernel_rfl) rfl #[.int .i64 a1] rfl (by (try simp only [List.map_toArray, List.map_cons, List.map_nil]); first | done | rfl | (simp only [List.length_drop, List.length_take]; rfl) | (simp only [Int.ofNat_lt, Int.ofNat_le]; rfl)) ?_; (with_reducible refine (semigroupref01_MayLetters.calls a1 true _ A3.out).mono ?_); rintro e w' ⟨rfl, ⟨nd, rfl⟩⟩; refine ⟨_, rfl, ?_⟩; have hcz15_0 : w14.cell? ⟨gb118, 0, none⟩ = some (.int .i64 a0_0) := (blk_cell BK118.out 0).trans rfl; have hcz15_1 : w14.cell? ⟨gb118, 1, none⟩ = some (.int .i64 a0_1) := (blk_cell BK118.out 1).trans rfl; have hcz15_2 : w14.cell? ⟨gb118, 2, none⟩ = some (.slice A0_2 l0_2.length c0_2) := (blk_cell BK118.out 2).trans rfl; have hfz15_0 := blk_frozen BK118.out 0; have hfz15_1 := blk_frozen BK118.out 1; have hfz15_2 := blk_frozen BK118.out 2) | ((with_reducible refine gate_callee (f := 44) rfl ?_); refine goesL_ (some 11) rfl rfl Try.func44 (by kernel_rfl) rfl #[.agg #[.int .i64 a0_0, .int .i64 a0_1, .slice A0_2 l0_2.length c0_2]] rfl (by (try simp only [List.map_toArray, List.map_cons, List.map_nil]); first | done | rfl | (simp only [List.length_drop, List.length_take]; rfl) | (simp only [Int.ofNat_lt, Int.ofNat_le]; rfl)) ?_; (with_reducible refine (semigroupref04_Within.calls k a0_0 a0_1 _ _ l0_2 true _ ?side1 ?side2 A5.out).mono ?_); (case side1 => repeat (first | exact (Kd.C_below HR0_2.out (bB)) | (with_reducible refine Kd.C_alloc ?_ _) | (with_reducible refine Kd.C_drewN ?_ _) | (with_reducible refine Kd.C_drew ?_))); (case side2 => exact HC0_2.out); rintro e w16 ⟨rfl, hb⟩; refine ⟨_, rfl, ?_⟩; have n0_ := Aside0.mk (blk_below (g := gb118) (o := .cells #[.int .i64 a0_0, .int .i64 a0_1, .slice A0_2 l0_2.length c0_2] 24 (0, 0)) (bK) hb); have n1_ := Aside0.mk (below_step (bB) hb); clear BK118; clear HB; have BK118 := n0_; have HB := n1_; clear n0_ n1_; (try clear hb); (try clear hb2); (try clear hk); (try clear hi); have hcz17_0 : w16.cell? ⟨gb118, 0, none⟩ = some (.int .i64 a0_0) := (blk_cell BK118.out 0).trans rfl; have hcz17_1 : w16.cell? ⟨gb118, 1, none⟩ = some (.int .i64 a0_1) := (blk_cell BK118.out 1).trans rfl; have hcz17_2 : w16.cell? ⟨gb118, 2, none⟩ = some (.slice A0_2 l0_2.length c0_2) := (blk_cell BK118.out 2).trans rfl; have hfz17_0 := blk_frozen BK118.out 0; have hfz17_1 := blk_frozen BK118.out 1; have hfz17_2 := blk_frozen BK118.out 2) | ((with_reducible refine gate_callee (f := 45) rfl ?_); refine goesL_ (some 16) rfl rfl Try.func45 (by kernel_rfl) rfl #[.agg #[.int .i64 a0_0, .int .i64 a0_1, .slice A0_2 l0_2.length c0_2], .int .i64 a1] rfl (by (try simp only [List.map_toArray, List.map_cons, List.map_nil]); first | done | rfl | (simp only [List.length_drop, List.length_take]; rfl) | (simp only [Int.ofNat_lt, Int.ofNat_le]; rfl)) ?_; (with_reducible refine (semigroupref04_shaped.calls k a0_0 a0_1 _ _ l0_2 a1 false _ ?side1 ?side2 A7.out).mono ?_); (case side1 => repeat (first | exact (Kd.C_below HR0_2.out HB.out) | (with_reducible refine Kd.C_alloc ?_ _) | (with_reducible refine Kd.C_drewN ?_ _) | (with_reducible refine Kd.C_drew ?_))); (case side2 => exact HC0_2.out); rintro e w18 ⟨rfl, hb⟩; refine ⟨_, rfl, ?_⟩; have n0_ := Aside0.mk (blk_below (g := gb118) (o := .cells #[.int .i64 a0_0, .int .i64 a0_1, .slice A0_2 l0_2.length c0_2] 24 (0, 0)) (bK) hb); have n1_ := Aside0.mk (below_step (bB) hb); clear BK118; clear HB; have BK118 := n0_; have HB := n1_; clear n0_ n1_; (try clear hb); (try clear hb2); (try clear hk); (try clear hi)))
    go_ret
    exact ⟨by first | rfl | (simp [errW_none, errW_some] <;> rfl) | (simp [*, errW_none, errW_some] <;> rfl), bB⟩
  ·replace c6 := Bool.eq_false_iff.mpr c6
   subst c6
   have H1 : (some 3) = some r := by rw [if_neg (show ¬ (false = true) by decide)] at H; exact H
   clear H
   have H := H1
   clear H1
   obtain rfl := Option.some.inj H
   go_enter Try.func16, Try.ntmps16
   go_wp2_with (first | ((with_reducible refine gate_dst (N := 2) rfl ?_); refine box_event ?hg (N := 2) ?hd (cs := #[.int .i64 a0_0, .int .i64 a0_1, .slice A0_2 l0_2.length c0_2]) (t := 24) ?hr ?_; (case hd => rfl); (case hg => rfl); (case hr => first | (go_simp; done) | (go_simp; rfl)); intro gb118 hg w19 hbox hb; have n0_ := Aside0.mk (below_step (bB) hb); have n1_ := Aside0.mk (hbox); have n2_ := Aside0.mk ((by rw [hg]; exact (below_size (bB)) : w.heap.size ≤ gb118)); have n3_ := Aside0.mk ((by rw [hg]; exact (below_size (bB)) : w.heap.size ≤ gb118)); clear HB; have HB := n0_; have BK118 := n1_; have GW118 := n2_; have GE118 := n3_; clear n0_ n1_ n2_ n3_; clear hb hbox hg) | ((with_reducible refine gate_callee (f := 43) rfl ?_); refine goesL_ (some 7) rfl rfl Try.func43 (by kernel_rfl) rfl #[.int .i64 a1] rfl (by (try simp only [List.map_toArray, List.map_cons, List.map_nil]); first | done | rfl | (simp only [List.length_drop, List.length_take]; rfl) | (simp only [Int.ofNat_lt, Int.ofNat_le]; rfl)) ?_; (with_reducible refine (semigroupref01_MayLetters.calls a1 true _ A3.out).mono ?_); rintro e w' ⟨rfl, ⟨nd, rfl⟩⟩; refine ⟨_, rfl, ?_⟩; have hcz20_0 : w19.cell? ⟨gb118, 0, none⟩ = some (.int .i64 a0_0) := (blk_cell BK118.out 0).trans rfl; have hcz20_1 : w19.cell? ⟨gb118, 1, none⟩ = some (.int .i64 a0_1) := (blk_cell BK118.out 1).trans rfl; have hcz20_2 : w19.cell? ⟨gb118, 2, none⟩ = some (.slice A0_2 l0_2.length c0_2) := (blk_cell BK118.out 2).trans rfl; have hfz20_0 := blk_frozen BK118.out 0; have hfz20_1 := blk_frozen BK118.out 1; have hfz20_2 := blk_frozen BK118.out 2) | ((with_reducible refine gate_callee (f := 44) rfl ?_); refine goesL_ (some 11) rfl rfl Try.func44 (by kernel_rfl) rfl #[.agg #[.int .i64 a0_0, .int .i64 a0_1, .slice A0_2 l0_2.length c0_2]] rfl (by (try simp only [List.map_toArray, List.map_cons, List.map_nil]); first | done | rfl | (simp only [List.length_drop, List.length_take]; rfl) | (simp only [Int.ofNat_lt, Int.ofNat_le]; rfl)) ?_; (with_reducible refine (semigroupref04_Within.calls k a0_0 a0_1 _ _ l0_2 false _ ?side1 ?side2 A5.out).mono ?_); (case side1 => repeat (first | exact (Kd.C_below HR0_2.out (bB)) | (with_reducible refine Kd.C_alloc ?_ _) | (with_reducible refine Kd.C_drewN ?_ _) | (with_reducible refine Kd.C_drew ?_))); (case side2 => exact HC0_2.out); rintro e w21 ⟨rfl, hb⟩; refine ⟨_, rfl, ?_⟩; have n0_ := Aside0.mk (blk_below (g := gb118) (o := .cells #[.int .i64 a0_0, .int .i64 a0_1, .slice A0_2 l0_2.length c0_2] 24 (0, 0)) (bK) hb); have n1_ := Aside0.mk (below_step (bB) hb); clear BK118; clear HB; have BK118 := n0_; have HB := n1_; clear n0_ n1_; (try clear hb); (try clear hb2); (try clear hk); (try clear hi)))
   go_ret
   exact ⟨by first | rfl | (simp [errW_none, errW_some] <;> rfl) | (simp [*, errW_none, errW_some] <;> rfl), bB⟩
 ·replace c4 := Bool.eq_false_iff.mpr c4
  subst c4
  have H1 : (some 1) = some r := by rw [if_neg (show ¬ (false = true) by decide)] at H; exact H
  clear H
  have H := H1
  clear H1
  obtain rfl := Option.some.inj H
  go_enter Try.func16, Try.ntmps16
  go_wp2_with (first | ((with_reducible refine gate_dst (N := 2) rfl ?_); refine box_event ?hg (N := 2) ?hd (cs := #[.int .i64 a0_0, .int .i64 a0_1, .slice A0_2 l0_2.length c0_2]) (t := 24) ?hr ?_; (case hd => rfl); (case hg => rfl); (case hr => first | (go_simp; done) | (go_simp; rfl)); intro gb118 hg w22 hbox hb; have n0_ := Aside0.mk (below_step (bB) hb); have n1_ := Aside0.mk (hbox); have n2_ := Aside0.mk ((by rw [hg]; exact (below_size (bB)) : w.heap.size ≤ gb118)); have n3_ := Aside0.mk ((by rw [hg]; exact (below_size (bB)) : w.heap.size ≤ gb118)); clear HB; have HB := n0_; have BK118 := n1_; have GW118 := n2_; have GE118 := n3_; clear n0_ n1_ n2_ n3_; clear hb hbox hg) | ((with_reducible refine gate_callee (f := 43) rfl ?_); refine goesL_ (some 7) rfl rfl Try.func43 (by kernel_rfl) rfl #[.int .i64 a1] rfl (by (try simp only [List.map_toArray, List.map_cons, List.map_nil]); first | done | rfl | (simp only [List.length_drop, List.length_take]; rfl) | (simp only [Int.ofNat_lt, Int.ofNat_le]; rfl)) ?_; (with_reducible refine (semigroupref01_MayLetters.calls a1 false _ A3.out).mono ?_); rintro e w' ⟨rfl, ⟨nd, rfl⟩⟩; refine ⟨_, rfl, ?_⟩))
  go_ret
  exact ⟨by first | rfl | (simp [errW_none, errW_some] <;> rfl) | (simp [*, errW_none, errW_some] <;> rfl), bB⟩
end Go.Proofs.Ytjofkebiacaciaa.PAll
end
section
namespace Go.Proofs.Ytjofkebiacaciaa.PAll
open Go.RowKit Go.Proofs.YtjofkebiacaciaaW.PrintWords Go.Proofs.YtjofkebiacaciaaW.PrintLast Go.Proofs.YtjofkebiacaciaaW.PrintMore
attribute [local go_sem] max2_int min2_int max_two min_two max_three min_three max_four min_four
set_option linter.unusedVariables false
set_option linter.unusedSimpArgs false
def semigroupref04_Valid.f (k : Nat) (a0_0 : Int) (a0_1 : Int) (l0_2 : List (S24)) : Option (Bool) := (semigroupref04_Validate.f k a0_0 a0_1 l0_2 6).bind fun t309 => (some (t309 == 0))
theorem semigroupref04_Valid.mono : ∀ a0 a1 a2 k, LeO (semigroupref04_Valid.f k a0 a1 a2) (semigroupref04_Valid.f (k + 1) a0 a1 a2) := by
 intro a0 a1 a2 k
 unfold semigroupref04_Valid.f
 repeat' first
   | (with_reducible exact semigroupref04_Validate.mono _ _ _ _ _)
   | (with_reducible exact LeO.refl _)
   | (with_reducible exact LeO.none _)
   | (with_reducible refine LeO.ite ?_ ?_)
   | (with_reducible refine LeO.bind ?_ (fun _ => ?_))
   | exact semigroupref04_Validate.mono _ _ _ _ _
   | exact LeO.none _
   | refine LeO.ite ?_ ?_
   | refine LeO.bind ?_ (fun _ => ?_)
set_option maxHeartbeats 8000000 in
set_option maxRecDepth 100000 in
theorem semigroupref04_Valid.calls (k : Nat) (a0_0 : Int) (a0_1 : Int) (A0_2 : Option Addr) (c0_2 : Nat) (l0_2 : List (S24)) (r : Bool) (w : World) (hr0_2 : Kd.C k24 w A0_2 l0_2.length l0_2) (hc0_2 : l0_2.length ≤ c0_2) (h : semigroupref04_Valid.f k a0_0 a0_1 l0_2 = some r) :
  Calls Try.prog 19 #[.agg #[.int .i64 a0_0, .int .i64 a0_1, .slice A0_2 l0_2.length c0_2]] w fun e w' => e = .returned (.bool r) ∧ Below w.heap.size w w' := by
 have hu24 := Try.underlying24
 have HR0_2 := Aside0.mk hr0_2
 have HC0_2 := Aside0.mk hc0_2
 clear hr0_2 hc0_2
 have HB := Aside0.mk (Below.refl w.heap.size w)
 have H : ((semigroupref04_Validate.f k a0_0 a0_1 l0_2 6).bind fun t309 => (some (t309 == 0))) = some r := h
 clear h
 replace H := Option.bind_eq_some_iff.mp H
 obtain ⟨t309, A20, H⟩ := H
 replace H : (some (t309 == 0)) = some r := H
 have A2 := Aside0.mk A20
 clear A20
 obtain rfl := Option.some.inj H
 go_enter Try.func19, Try.ntmps19
 go_wp2_with (first | ((with_reducible refine gate_dst (N := 1) rfl ?_); refine box_event ?hg (N := 1) ?hd (cs := #[.int .i64 a0_0, .int .i64 a0_1, .slice A0_2 l0_2.length c0_2]) (t := 24) ?hr ?_; (case hd => rfl); (case hg => rfl); (case hr => first | (go_simp; done) | (go_simp; rfl)); intro gb308 hg w3 hbox hb; have n0_ := Aside0.mk (below_step (bB) hb); have n1_ := Aside0.mk (hbox); have n2_ := Aside0.mk ((by rw [hg]; exact (below_size (bB)) : w.heap.size ≤ gb308)); have n3_ := Aside0.mk ((by rw [hg]; exact (below_size (bB)) : w.heap.size ≤ gb308)); clear HB; have HB := n0_; have BK308 := n1_; have GW308 := n2_; have GE308 := n3_; clear n0_ n1_ n2_ n3_; clear hb hbox hg; have hcz4_0 : w3.cell? ⟨gb308, 0, none⟩ = some (.int .i64 a0_0) := (blk_cell BK308.out 0).trans rfl; have hcz4_1 : w3.cell? ⟨gb308, 1, none⟩ = some (.int .i64 a0_1) := (blk_cell BK308.out 1).trans rfl; have hcz4_2 : w3.cell? ⟨gb308, 2, none⟩ = some (.slice A0_2 l0_2.length c0_2) := (blk_cell BK308.out 2).trans rfl; have hfz4_0 := blk_frozen BK308.out 0; have hfz4_1 := blk_frozen BK308.out 1; have hfz4_2 := blk_frozen BK308.out 2) | ((with_reducible refine gate_callee (f := 16) rfl ?_); refine goesL_ (some 4) rfl rfl Try.func16 (by kernel_rfl) rfl #[.agg #[.int .i64 a0_0, .int .i64 a0_1, .slice A0_2 l0_2.length c0_2], .int .i64 6] rfl (by (try simp only [List.map_toArray, List.map_cons, List.map_nil]); first | done | rfl | (simp only [List.length_drop, List.length_take]; rfl) | (simp only [Int.ofNat_lt, Int.ofNat_le]; rfl)) ?_; (with_reducible refine (semigroupref04_Validate.calls k a0_0 a0_1 _ _ l0_2 6 t309 _ ?side1 ?side2 A2.out).mono ?_); (case side1 => repeat (first | exact (Kd.C_below HR0_2.out HB.out) | (with_reducible refine Kd.C_alloc ?_ _) | (with_reducible refine Kd.C_drewN ?_ _) | (with_reducible refine Kd.C_drew ?_))); (case side2 => exact HC0_2.out); rintro e w5 ⟨rfl, hb⟩; refine ⟨_, rfl, ?_⟩; have n0_ := Aside0.mk (blk_below (g := gb308) (o := .cells #[.int .i64 a0_0, .int .i64 a0_1, .slice A0_2 l0_2.length c0_2] 24 (0, 0)) (bK) hb); have n1_ := Aside0.mk (below_step (bB) hb); clear BK308; clear HB; have BK308 := n0_; have HB := n1_; clear n0_ n1_; (try clear hb); (try clear hb2); (try clear hk); (try clear hi)))
 go_ret
 exact ⟨by first | rfl | (simp [errW_none, errW_some] <;> rfl) | (simp [*, errW_none, errW_some] <;> rfl), bB⟩
end Go.Proofs.Ytjofkebiacaciaa.PAll
end
section
namespace Go.Proofs.Ytjofkebiacaciaa.T04
open Go Go.RowKit Go.Proofs.Ytjofkebiacaciaa.PAll Go.Proofs.YtjofkebiacaciaaW.PrintWords Go.Proofs.YtjofkebiacaciaaW.PrintLast Go.Proofs.YtjofkebiacaciaaW.PrintMore Go.Proofs.Ytjofkebiacaciaa.AllRead24
set_option linter.all false
def opKids (o : Int) (n : Nat) : Bool :=
 if o = 1 ∨ o = 2 ∨ o = 3 then decide (n = 0) else if o = 7 ∨ o = 8 then decide (n = 1) else if o = 4 ∨ o = 5 ∨ o = 6 then decide (2 ≤ n) else false
def letOK (o a L : Int) : Bool := if o = 3 then decide (0 ≤ a ∧ a < L) else decide (a = 0)
mutual
def shp (L : Int) : S24 → Bool
 | ⟨o, a, l⟩ => opKids o l.length && (letOK o a L && shps L l)
def shps (L : Int) : List S24 → Bool
 | [] => true
 | x :: r => shp L x && shps L r
end
theorem shp_mk (L : Int) (e : S24) : shp L e = (opKids e.f0 e.f2.length && (letOK e.f0 e.f1 L && shps L e.f2)) := by cases e; rw [shp]
theorem shps_mem {L : Int} {l : List S24} (h : shps L l = true) {x : S24} (hx : x ∈ l) : shp L x = true := by
 induction l with
 | nil => cases hx
 | cons y r ih =>
  simp [shps] at h
  rcases List.mem_cons.mp hx with rfl | hx
  ·exact h.1
  ·exact ih h.2 hx
theorem Ev.if {α : Type} {c : Prop} [Decidable c] {a b : Nat → Option α} {x y : α} (h1 : c → Ev a x) (h2 : ¬ c → Ev b y) : Ev (fun k => if c then a k else b k) (if c then x else y) := by
 by_cases h : c
 ·simp only [if_pos h]; exact h1 h
 ·simp only [if_neg h]; exact h2 h
theorem Ev.to {α : Type} {g : Nat → Option α} {x y : α} (h : Ev g x) (e : x = y) : Ev g y := e ▸ h
theorem shaped_prog (L : Int) (e : S24) : WF e → size e ≤ 400 → Ev (fun k => expr_shaped.f k e.f0 e.f1 e.f2 L) (shp L e) := by
 induction e using ind with
 | h e ih =>
 intro hw hs
 have hs' : sizes e.f2 ≤ 399 := by rw [size_mk] at hs; omega
 have hlen : e.f2.length ≤ 399 := Nat.le_trans (length_le_sizes _) hs'
 have loop : ∀ (r pre : List S24), e.f2 = pre ++ r → Ev (fun k => expr_shaped.l0 k L e.f2 (e.f2.length : Int) (pre.length : Int)) (shps L r) := by
  intro r
  induction r with
  | nil =>
   intro pre hp
   exact Ev.step (fun k => by simp only [expr_shaped.l0]; rw [hp, if_neg (not_lt_end pre)]; rfl) (Ev.now _)
  | cons x r ihr =>
   intro pre hp
   have hx : x ∈ e.f2 := by rw [hp]; simp
   have h1 := ih x hx (hw.kid hx) (by have := sizes_mem hx; omega)
   refine Ev.step (f := fun k => (expr_shaped.f k x.f0 x.f1 x.f2 L).bind fun t => (if t = true then (expr_shaped.l0 k L e.f2 (e.f2.length : Int) ((pre ++ [x]).length : Int)) else some false)) (fun k => ?_) (Ev.bind h1 ?_)
   ·simp only [expr_shaped.l0]
    rw [← next_mid (r := r) (x := x) (by rw [← hp]; exact hw.len), hp, if_pos (lt_mid pre x r), if_pos (ge0 _), if_pos (lt_mid pre x r), rd_mid]
   ·refine Ev.to (Ev.if (fun _ => ihr (pre ++ [x]) (by rw [hp]; exact shift_mid pre x r)) (fun _ => Ev.now false)) ?_
    simp [shps]
    try (cases shp L x <;> simp)
 have l0 := loop e.f2 [] rfl
 have j4 : ∀ b, Ev (fun k => expr_shaped.j4 k L b e.f0 e.f1 e.f2) (!b && shps L e.f2) := fun b =>
  Ev.step (f := fun k => if b = true then some false else expr_shaped.l0 k L e.f2 (e.f2.length : Int) 0) (fun k => by simp only [expr_shaped.j4]) (Ev.to (Ev.if (fun _ => Ev.now false) (fun _ => l0)) (by cases b <;> simp))
 have j3 : ∀ b, Ev (fun k => expr_shaped.j3 k L b e.f0 e.f1 e.f2) (!b && (letOK e.f0 e.f1 L && shps L e.f2)) := fun b =>
  Ev.step (fun k => by simp only [expr_shaped.j3]; rfl) (Ev.to (Ev.if (fun _ => Ev.now false) (fun _ => Ev.if (fun _ => Ev.if (fun _ => j4 _) (fun _ => Ev.if (fun _ => j4 _) (fun _ => j4 _))) (fun _ => j4 _))) (by
   unfold letOK
   cases b with
   | true => simp
   | false =>
    by_cases h3 : e.f0 = 3
    ·by_cases h4 : e.f1 < 0
     ·simp [h3, h4]; omega
     ·by_cases h5 : e.f1 ≥ L
      ·simp [h3, h4, h5]; omega
      ·simp [h3, h4, h5]; omega
    ·simp [h3]; by_cases h0 : e.f1 = 0 <;> simp [h0]))
 let J2 (least most : Nat) : Bool := decide (least ≤ e.f2.length ∧ e.f2.length ≤ most) && (letOK e.f0 e.f1 L && shps L e.f2)
 have j2 : ∀ least most : Nat, Ev (fun k => expr_shaped.j2 k L least most e.f0 e.f1 e.f2) (J2 least most) := fun least most =>
  Ev.step (fun k => by simp only [expr_shaped.j2]; rfl) (Ev.to (Ev.if (fun _ => j3 _) (fun _ => j3 _)) (by
   show _ = (decide (least ≤ e.f2.length ∧ e.f2.length ≤ most) && (letOK e.f0 e.f1 L && shps L e.f2))
   by_cases h : (e.f2.length : Int) < least
   ·have : ¬ (least ≤ e.f2.length ∧ e.f2.length ≤ most) := by omega
    simp only [if_pos h, decide_eq_false this]; simp
   ·by_cases h2 : (e.f2.length : Int) > most
    ·have : ¬ (least ≤ e.f2.length ∧ e.f2.length ≤ most) := by omega
     simp only [if_neg h, decide_eq_true h2, decide_eq_false this]; simp
    ·have : (least ≤ e.f2.length ∧ e.f2.length ≤ most) := by omega
     simp only [if_neg h, decide_eq_false h2, decide_eq_true this]; simp))
 have j1 : ∀ b, Ev (fun k => expr_shaped.j1 k L e.f0 b e.f0 e.f1 e.f2) (if b = true then J2 2 400 else if e.f0 = 7 then J2 1 1 else if e.f0 = 8 then J2 1 1 else false) := fun b =>
  Ev.step (fun k => by simp only [expr_shaped.j1]; rfl) (Ev.if (fun _ => j2 2 400) (fun _ => Ev.if (fun _ => j2 1 1) (fun _ => Ev.if (fun _ => j2 1 1) (fun _ => Ev.now false))))
 have j0 : ∀ b, Ev (fun k => expr_shaped.j0 k L 0 0 e.f0 b e.f0 e.f1 e.f2) (if b = true then J2 0 0 else if e.f0 = 4 ∨ e.f0 = 5 ∨ e.f0 = 6 then J2 2 400 else if e.f0 = 7 ∨ e.f0 = 8 then J2 1 1 else false) := fun b =>
  Ev.step (fun k => by simp only [expr_shaped.j0]; rfl) (Ev.to (Ev.if (fun _ => j2 0 0) (fun _ => Ev.if (fun _ => j1 _) (fun _ => Ev.if (fun _ => j1 _) (fun _ => j1 _)))) (by
   cases b with
   | true => simp
   | false =>
    by_cases h4 : e.f0 = 4
    ·simp [h4]
    ·by_cases h5 : e.f0 = 5
     ·simp [h5]
     ·by_cases h6 : e.f0 = 6
      ·simp [h6]
      ·by_cases h7 : e.f0 = 7
       ·simp [h7]
       ·by_cases h8 : e.f0 = 8
        ·simp [h8]
        ·simp [h4, h5, h6, h7, h8]))
 have a0 : J2 0 0 = (decide (e.f2.length = 0) && (letOK e.f0 e.f1 L && shps L e.f2)) := by
  show (decide (0 ≤ e.f2.length ∧ e.f2.length ≤ 0) && _) = _
  rw [show decide (0 ≤ e.f2.length ∧ e.f2.length ≤ 0) = decide (e.f2.length = 0) from by rw [decide_eq_decide]; omega]
 have a1 : J2 1 1 = (decide (e.f2.length = 1) && (letOK e.f0 e.f1 L && shps L e.f2)) := by
  show (decide (1 ≤ e.f2.length ∧ e.f2.length ≤ 1) && _) = _
  rw [show decide (1 ≤ e.f2.length ∧ e.f2.length ≤ 1) = decide (e.f2.length = 1) from by rw [decide_eq_decide]; omega]
 have a2 : J2 2 400 = (decide (2 ≤ e.f2.length) && (letOK e.f0 e.f1 L && shps L e.f2)) := by
  show (decide (2 ≤ e.f2.length ∧ e.f2.length ≤ 400) && _) = _
  rw [show decide (2 ≤ e.f2.length ∧ e.f2.length ≤ 400) = decide (2 ≤ e.f2.length) from by rw [decide_eq_decide]; omega]
 refine Ev.step (fun k => by simp only [expr_shaped.f]; rfl) (Ev.to (Ev.if (fun _ => j0 _) (fun _ => Ev.if (fun _ => j0 _) (fun _ => j0 _))) ?_)
 rw [a0, a1, a2, shp_mk]
 unfold opKids
 generalize (letOK e.f0 e.f1 L && shps L e.f2) = z
 by_cases h1 : e.f0 = 1
 ·simp [h1]
 ·by_cases h2 : e.f0 = 2
  ·simp [h2]
  ·by_cases h3 : e.f0 = 3
   ·simp [h3]
   ·by_cases h4 : e.f0 = 4
    ·simp [h4]
    ·by_cases h5 : e.f0 = 5
     ·simp [h5]
     ·by_cases h6 : e.f0 = 6
      ·simp [h6]
      ·by_cases h7 : e.f0 = 7
       ·simp [h7]
       ·by_cases h8 : e.f0 = 8
        ·simp [h8]
        ·simp [h1, h2, h3, h4, h5, h6, h7, h8]
theorem shaped_ref (L : Int) (e : S24) : WF e → Ev (fun k => semigroupref04_shaped.f k e.f0 e.f1 e.f2 L) (shp L e) := by
 induction e using ind with
 | h e ih =>
 intro hw
 have loop : ∀ (r pre : List S24), e.f2 = pre ++ r → ∀ b, Ev (fun k => semigroupref04_shaped.l0 k L (e.f2.length : Int) b (pre.length : Int) e.f0 e.f1 e.f2) (b && shps L r) := by
  intro r
  induction r with
  | nil =>
   intro pre hp b
   exact Ev.to (Ev.step (f := fun _ => some b) (fun k => by simp only [semigroupref04_shaped.l0]; rw [hp, if_neg (not_lt_end pre)]) (Ev.now _)) (by simp [shps])
  | cons x r ihr =>
   intro pre hp b
   have hx : x ∈ e.f2 := by rw [hp]; simp
   have h1 := ih x hx (hw.kid hx)
   cases b with
   | false => exact Ev.to (Ev.step (f := fun _ => some false) (fun k => by simp only [semigroupref04_shaped.l0]; rw [hp, if_pos (lt_mid pre x r), if_neg (by decide)]) (Ev.now _)) (by simp)
   | true =>
    refine Ev.to (Ev.step (f := fun k => (semigroupref04_shaped.f k x.f0 x.f1 x.f2 L).bind fun t => semigroupref04_shaped.l0 k L (e.f2.length : Int) t ((pre ++ [x]).length : Int) e.f0 e.f1 e.f2) (fun k => ?_) (Ev.bind h1 (ihr (pre ++ [x]) (by rw [hp]; exact shift_mid pre x r) _))) (by simp [shps])
    simp only [semigroupref04_shaped.l0]
    rw [← next_mid (r := r) (x := x) (by rw [← hp]; exact hw.len), hp, if_pos (lt_mid pre x r), if_pos trivial, if_pos (ge0 _), if_pos (lt_mid pre x r), rd_mid]
 have l0 := loop e.f2 [] rfl
 have j3 : ∀ b, Ev (fun k => semigroupref04_shaped.j3 k L (e.f2.length : Int) b e.f0 e.f1 e.f2) (b && shps L e.f2) := fun b =>
  Ev.step (fun k => by simp only [semigroupref04_shaped.j3]; rfl) (l0 b)
 have j2 : ∀ b, Ev (fun k => semigroupref04_shaped.j2 k L (e.f2.length : Int) b e.f0 e.f1 e.f2) (b && (letOK e.f0 e.f1 L && shps L e.f2)) := fun b =>
  Ev.step (fun k => by simp only [semigroupref04_shaped.j2]; rfl) (Ev.to (Ev.if (fun _ => Ev.if (fun _ => Ev.if (fun _ => j3 _) (fun _ => j3 _)) (fun _ => j3 _)) (fun _ => Ev.if (fun _ => j3 _) (fun _ => j3 _))) (by
   unfold letOK
   generalize shps L e.f2 = z
   cases b with
   | false => by_cases h3 : e.f0 = 3 <;> simp [h3]
   | true =>
    by_cases h3 : e.f0 = 3
    ·by_cases h4 : e.f1 ≥ 0
     ·simp [h3, h4]
     ·simp [h3, h4] <;> (try (intros; omega))
    ·simp [h3]; by_cases h0 : e.f1 = 0 <;> simp [h0]))
 let z := (letOK e.f0 e.f1 L && shps L e.f2)
 have j1 : ∀ b c, Ev (fun k => semigroupref04_shaped.j1 k L (e.f2.length : Int) b e.f0 c e.f0 e.f1 e.f2) ((if c = true then decide (e.f2.length = 0) else if e.f0 = 7 ∨ e.f0 = 8 then decide (e.f2.length = 1) else (b && decide (2 ≤ e.f2.length))) && z) := fun b c =>
  Ev.step (fun k => by simp only [semigroupref04_shaped.j1]; rfl) (Ev.to (Ev.if (fun _ => j2 _) (fun _ => Ev.if (fun _ => j2 _) (fun _ => Ev.if (fun _ => j2 _) (fun _ => Ev.if (fun _ => j2 _) (fun _ => j2 _))))) (by
   have e0 : ((e.f2.length : Int) == 0) = decide (e.f2.length = 0) := by rw [Bool.eq_iff_iff]; simp; try omega
   have e1 : ((e.f2.length : Int) == 1) = decide (e.f2.length = 1) := by rw [Bool.eq_iff_iff]; simp; try omega
   have e2 : decide ((e.f2.length : Int) ≥ 2) = decide (2 ≤ e.f2.length) := by rw [decide_eq_decide]; omega
   rw [e0, e1, e2]
   show _ = (_ && (letOK e.f0 e.f1 L && shps L e.f2))
   generalize (letOK e.f0 e.f1 L && shps L e.f2) = z
   cases c with
   | true => simp
   | false =>
    by_cases h7 : e.f0 = 7
    ·simp [h7]
    ·by_cases h8 : e.f0 = 8
     ·simp [h8]
     ·cases b <;> simp [h7, h8]))
 have j0 : ∀ b, Ev (fun k => semigroupref04_shaped.j0 k L (e.f2.length : Int) b e.f0 e.f1 e.f2) ((if e.f0 = 1 ∨ e.f0 = 2 ∨ e.f0 = 3 then decide (e.f2.length = 0) else if e.f0 = 7 ∨ e.f0 = 8 then decide (e.f2.length = 1) else (b && decide (2 ≤ e.f2.length))) && z) := fun b =>
  Ev.step (fun k => by simp only [semigroupref04_shaped.j0]; rfl) (Ev.to (Ev.if (fun _ => j1 _ _) (fun _ => Ev.if (fun _ => j1 _ _) (fun _ => j1 _ _))) (by
   by_cases h1 : e.f0 = 1
   ·simp [h1]
   ·by_cases h2 : e.f0 = 2
    ·simp [h2]
    ·by_cases h3 : e.f0 = 3
     ·simp [h3]
     ·simp [h1, h2, h3]))
 refine Ev.step (fun k => by simp only [semigroupref04_shaped.f]; rfl) (Ev.to (Ev.if (fun _ => j0 _) (fun _ => j0 _)) ?_)
 rw [shp_mk]
 unfold opKids
 show _ = (_ && z)
 generalize z = z
 by_cases h1 : e.f0 = 1
 ·simp [h1]
 ·by_cases h2 : e.f0 = 2
  ·simp [h2]
  ·by_cases h3 : e.f0 = 3
   ·simp [h3]
   ·by_cases h4 : e.f0 = 4
    ·simp [h4]
    ·by_cases h5 : e.f0 = 5
     ·simp [h5]
     ·by_cases h6 : e.f0 = 6
      ·simp [h6]
      ·by_cases h7 : e.f0 = 7
       ·simp [h7]
       ·by_cases h8 : e.f0 = 8
        ·simp [h8]
        ·simp [h1, h2, h3, h4, h5, h6, h7, h8]
         intro a b; omega
def validate (L : Int) (e : S24) : Int := if L < 1 ∨ 6 < L then 1 else if ¬ WithinP e then 3 else if shp L e = false then 4 else 0
theorem validate_prog (e : S24) (hw : WF e) (L : Int) : Ev (fun k => expr_Validate.f k e.f0 e.f1 e.f2 L) (validate L e) := by
 have j0 : ∀ b, Ev (fun k => expr_Validate.j0 k L b e.f0 e.f1 e.f2) (if b = true then 1 else if ¬ WithinP e then 3 else if shp L e = false then 4 else 0) := fun b =>
  Ev.step (fun k => by simp only [expr_Validate.j0]; rfl) (Ev.if (fun _ => Ev.now _) (fun _ => Ev.bind (within_prog e hw) (by
   by_cases h : WithinP e
   ·simp only [decide_eq_true h, h, if_true, not_true, if_false]
    refine Ev.bind (shaped_prog L e hw h.1) ?_
    cases shp L e
    ·simp; exact Ev.now _
    ·simp; exact Ev.now _
   ·simp only [decide_eq_false h, h]
    simp; exact Ev.now _)))
 refine Ev.congr (f := fun k => if L < 1 then expr_Validate.j0 k L true e.f0 e.f1 e.f2 else expr_Validate.j0 k L (decide (L > 6)) e.f0 e.f1 e.f2) (fun k => by simp only [expr_Validate.f]) (Ev.to (Ev.if (fun _ => j0 _) (fun _ => j0 _)) ?_)
 unfold validate
 by_cases h1 : L < 1
 ·simp [h1]
 ·by_cases h2 : L > 6
  ·simp [h1, h2]
  ·simp [h1, h2]
theorem validate_ref (e : S24) (hw : WF e) (L : Int) : Ev (fun k => semigroupref04_Validate.f k e.f0 e.f1 e.f2 L) (validate L e) := by
 have hm : semigroupref01_MayLetters.f L = some (decide (1 ≤ L ∧ L ≤ 6)) := by
  unfold semigroupref01_MayLetters.f
  by_cases h : L ≥ 1
  ·rw [if_pos h]; congr 1; rw [decide_eq_decide]; omega
  ·rw [if_neg h]; congr 1; rw [eq_comm, decide_eq_false_iff_not]; omega
 refine Ev.congr (fun k => by simp only [semigroupref04_Validate.f, hm]; rfl) ?_
 unfold validate
 by_cases h1 : 1 ≤ L ∧ L ≤ 6
 ·have h2 : ¬ (L < 1 ∨ 6 < L) := by omega
  simp only [decide_eq_true h1, Option.bind_some, if_true, if_neg h2]
  refine Ev.bind (within_ref e hw) ?_
  by_cases h : WithinP e
  ·simp only [decide_eq_true h, h, if_true, not_true, if_false]
   refine Ev.bind (shaped_ref L e hw) ?_
   cases shp L e
   ·simp; exact Ev.now _
   ·simp; exact Ev.now _
  ·simp only [decide_eq_false h, h]
   simp; exact Ev.now _
 ·have h2 : (L < 1 ∨ 6 < L) := by omega
  simp only [decide_eq_false h1, Option.bind_some, if_pos h2]
  simp; exact Ev.now _
def Vld (e : S24) : Prop := WithinP e ∧ shp 6 e = true
instance (e : S24) : Decidable (Vld e) := by unfold Vld; infer_instance
theorem validate_vld (e : S24) : (validate 6 e == 0) = decide (Vld e) := by
 unfold validate Vld
 by_cases h : WithinP e
 ·by_cases hs : shp 6 e = true
  ·simp [h, hs]
  ·simp [h, hs]
 ·simp [h]
theorem valid_prog (e : S24) (hw : WF e) : Ev (fun k => expr_valid.f k e.f0 e.f1 e.f2) (decide (Vld e)) :=
 Ev.congr (f := fun k => (expr_Validate.f k e.f0 e.f1 e.f2 6).bind fun t => some (t == 0)) (fun k => by simp only [expr_valid.f]) (Ev.bind (f := fun k t => some (t == 0)) (validate_prog e hw 6) (Ev.to (Ev.now _) (validate_vld e)))
theorem valid_ref (e : S24) (hw : WF e) : Ev (fun k => semigroupref04_Valid.f k e.f0 e.f1 e.f2) (decide (Vld e)) :=
 Ev.congr (f := fun k => (semigroupref04_Validate.f k e.f0 e.f1 e.f2 6).bind fun t => some (t == 0)) (fun k => by simp only [semigroupref04_Valid.f]) (Ev.bind (f := fun k t => some (t == 0)) (validate_ref e hw 6) (Ev.to (Ev.now _) (validate_vld e)))
end Go.Proofs.Ytjofkebiacaciaa.T04
end
section
namespace Go.Proofs.Ytjofkebiacaciaa.T04
open Go Go.RowKit Go.Proofs.Ytjofkebiacaciaa.PAll Go.Proofs.YtjofkebiacaciaaW.PrintWords Go.Proofs.YtjofkebiacaciaaW.PrintLast Go.Proofs.YtjofkebiacaciaaW.PrintMore Go.Proofs.Ytjofkebiacaciaa.AllRead24
set_option linter.all false
def ordI (a b : Int) : Int := if a < b then -1 else if a > b then 1 else 0
mutual
def cmp : S24 → S24 → Int
 | ⟨o, a, l⟩, ⟨p, b, m⟩ => if ordI o p = 0 then (if ordI a b = 0 then cmps l m else ordI a b) else ordI o p
def cmps : List S24 → List S24 → Int
 | [], [] => 0
 | [], _ :: _ => -1
 | _ :: _, [] => 1
 | x :: r, y :: s => if cmp x y = 0 then cmps r s else cmp x y
end
theorem cmp_mk (x y : S24) : cmp x y = if ordI x.f0 y.f0 = 0 then (if ordI x.f1 y.f1 = 0 then cmps x.f2 y.f2 else ordI x.f1 y.f1) else ordI x.f0 y.f0 := by cases x; cases y; rw [cmp]
theorem order_some (a b : Int) : simplify_order.f a b = some (ordI a b) := by
 unfold simplify_order.f ordI
 split
 ·rfl
 ·split <;> rfl
theorem sign_some (b : Bool) : semigroupref04_sign.f b = some (if b = true then -1 else 1) := by
 unfold semigroupref04_sign.f; cases b <;> rfl
theorem ordI_zero {a b : Int} : ordI a b = 0 ↔ a = b := by
 unfold ordI; split
 ·simp; omega
 ·split
  ·simp; omega
  ·simp; omega
theorem ordI_ne {a b : Int} (h : a ≠ b) : ordI a b = if decide (a < b) = true then -1 else 1 := by
 unfold ordI
 by_cases h1 : a < b
 ·simp [h1]
 ·simp [h1]; omega
theorem tail_order {l m pre pre' r s : List S24} (hl : l = pre ++ r) (hm : m = pre' ++ s) (hp : pre.length = pre'.length) (he : r = [] ∨ s = []) : ordI (l.length : Int) (m.length : Int) = cmps r s := by
 subst hl hm
 unfold ordI
 cases r with
 | nil => cases s with
  | nil => simp [cmps, hp]
  | cons y s => simp [cmps, hp]; omega
 | cons x r => cases s with
  | nil => simp [cmps, hp]; omega
  | cons y s => rcases he with h | h <;> cases h
theorem cmp_prog (x : S24) : WF x → ∀ y, WF y → Ev (fun k => simplify_Compare.f k x.f0 x.f1 x.f2 y.f0 y.f1 y.f2) (cmp x y) := by
 induction x using ind with
 | h x ih =>
 intro hx y hy
 have loop : ∀ (r pre : List S24), x.f2 = pre ++ r → ∀ (s pre' : List S24), y.f2 = pre' ++ s → pre.length = pre'.length → Ev (fun k => simplify_Compare.l0 k (pre.length : Int) x.f0 x.f1 x.f2 y.f0 y.f1 y.f2) (cmps r s) := by
  intro r
  induction r with
  | nil =>
   intro pre hp s pre' hp' hl
   have ht := tail_order hp hp' hl (.inl rfl)
   refine Ev.step (f := fun k => simplify_Compare.j1 k (pre.length : Int) false x.f0 x.f1 x.f2 y.f0 y.f1 y.f2) (fun k => by simp only [simplify_Compare.l0]; rw [hp, if_neg (not_lt_end pre)]) ?_
   exact Ev.step (f := fun _ => some (cmps [] s)) (fun k => by simp only [simplify_Compare.j1]; rw [if_neg (by decide), order_some, ht]; rfl) (Ev.now _)
  | cons a r ihr =>
   intro pre hp s pre' hp' hl
   have ha : a ∈ x.f2 := by rw [hp]; simp
   have hlt : (pre.length : Int) < (x.f2.length : Int) := by rw [hp]; exact lt_mid pre a r
   cases s with
   | nil =>
    have ht := tail_order hp hp' hl (.inr rfl)
    have hnl : ¬ (pre.length : Int) < (y.f2.length : Int) := by rw [hp', hl]; exact not_lt_end pre'
    refine Ev.step (f := fun k => simplify_Compare.j1 k (pre.length : Int) false x.f0 x.f1 x.f2 y.f0 y.f1 y.f2) (fun k => by simp only [simplify_Compare.l0]; rw [if_pos hlt, decide_eq_false hnl]) ?_
    exact Ev.step (f := fun _ => some (cmps (a :: r) [])) (fun k => by simp only [simplify_Compare.j1]; rw [if_neg (by decide), order_some, ht]; rfl) (Ev.now _)
   | cons b s =>
    have hlt' : (pre.length : Int) < (y.f2.length : Int) := by rw [hp', hl]; exact lt_mid pre' b s
    have hb : b ∈ y.f2 := by rw [hp']; simp
    have e1 : rd_T24 x.f2 (pre.length : Int) = a := by rw [hp]; exact rd_mid pre a r
    have e2 : rd_T24 y.f2 (pre.length : Int) = b := by rw [hp', hl]; exact rd_mid pre' b s
    have hn : wrap64 ((pre.length : Int) + 1) = ((pre ++ [a]).length : Int) := next_mid (r := r) (x := a) (by rw [← hp]; exact hx.len)
    refine Ev.step (f := fun k => simplify_Compare.j1 k (pre.length : Int) true x.f0 x.f1 x.f2 y.f0 y.f1 y.f2) (fun k => by simp only [simplify_Compare.l0]; rw [if_pos hlt, decide_eq_true hlt']) ?_
    refine Ev.step (f := fun k => (simplify_Compare.f k a.f0 a.f1 a.f2 b.f0 b.f1 b.f2).bind fun t => if t = 0 then simplify_Compare.l0 k ((pre ++ [a]).length : Int) x.f0 x.f1 x.f2 y.f0 y.f1 y.f2 else some t) (fun k => by simp only [simplify_Compare.j1]; rw [if_pos trivial, if_pos (ge0 _), if_pos hlt, if_pos hlt', e1, e2, hn]) ?_
    refine Ev.bind (ih a ha (hx.kid ha) b (hy.kid hb)) ?_
    rw [cmps]
    exact Ev.if (fun _ => ihr (pre ++ [a]) (by rw [hp]; exact shift_mid pre a r) s (pre' ++ [b]) (by rw [hp']; exact shift_mid pre' b s) (by simp [hl])) (fun _ => Ev.now _)
 refine Ev.step (f := fun k => if ordI x.f0 y.f0 = 0 then (if ordI x.f1 y.f1 = 0 then simplify_Compare.l0 k 0 x.f0 x.f1 x.f2 y.f0 y.f1 y.f2 else some (ordI x.f1 y.f1)) else some (ordI x.f0 y.f0)) (fun k => by simp only [simplify_Compare.f, order_some, Option.bind_some]) ?_
 rw [cmp_mk]
 exact Ev.if (fun _ => Ev.if (fun _ => loop x.f2 [] rfl y.f2 [] rfl rfl) (fun _ => Ev.now _)) (fun _ => Ev.now _)
theorem cmp_ref (x : S24) : WF x → ∀ y, WF y → Ev (fun k => semigroupref04_Compare.f k x.f0 x.f1 x.f2 y.f0 y.f1 y.f2) (cmp x y) := by
 induction x using ind with
 | h x ih =>
 intro hx y hy
 have fin : ∀ {r s pre pre' : List S24}, x.f2 = pre ++ r → y.f2 = pre' ++ s → pre.length = pre'.length → r = [] ∨ s = [] → Ev (fun k => semigroupref04_Compare.j1 k (pre.length : Int) false x.f0 x.f1 x.f2 y.f0 y.f1 y.f2) (cmps r s) := by
  intro r s pre pre' hp hp' hl he
  have ht := tail_order hp hp' hl he
  by_cases e : (x.f2.length : Int) = (y.f2.length : Int)
  ·exact Ev.step (f := fun _ => some (cmps r s)) (fun k => by simp only [semigroupref04_Compare.j1]; rw [if_neg (by decide), if_pos e, ← ht, ordI_zero.mpr e]) (Ev.now _)
  ·exact Ev.step (f := fun _ => some (cmps r s)) (fun k => by simp only [semigroupref04_Compare.j1]; rw [if_neg (by decide), if_neg e, sign_some, ← ht, ordI_ne e]; rfl) (Ev.now _)
 have loop : ∀ (r pre : List S24), x.f2 = pre ++ r → ∀ (s pre' : List S24), y.f2 = pre' ++ s → pre.length = pre'.length → Ev (fun k => semigroupref04_Compare.l0 k (pre.length : Int) x.f0 x.f1 x.f2 y.f0 y.f1 y.f2) (cmps r s) := by
  intro r
  induction r with
  | nil =>
   intro pre hp s pre' hp' hl
   exact Ev.step (f := fun k => semigroupref04_Compare.j1 k (pre.length : Int) false x.f0 x.f1 x.f2 y.f0 y.f1 y.f2) (fun k => by simp only [semigroupref04_Compare.l0]; rw [hp, if_neg (not_lt_end pre)]) (fin hp hp' hl (.inl rfl))
  | cons a r ihr =>
   intro pre hp s pre' hp' hl
   have ha : a ∈ x.f2 := by rw [hp]; simp
   have hlt : (pre.length : Int) < (x.f2.length : Int) := by rw [hp]; exact lt_mid pre a r
   cases s with
   | nil =>
    have hnl : ¬ (pre.length : Int) < (y.f2.length : Int) := by rw [hp', hl]; exact not_lt_end pre'
    exact Ev.step (f := fun k => semigroupref04_Compare.j1 k (pre.length : Int) false x.f0 x.f1 x.f2 y.f0 y.f1 y.f2) (fun k => by simp only [semigroupref04_Compare.l0]; rw [if_pos hlt, decide_eq_false hnl]) (fin hp hp' hl (.inr rfl))
   | cons b s =>
    have hlt' : (pre.length : Int) < (y.f2.length : Int) := by rw [hp', hl]; exact lt_mid pre' b s
    have hb : b ∈ y.f2 := by rw [hp']; simp
    have e1 : rd_T24 x.f2 (pre.length : Int) = a := by rw [hp]; exact rd_mid pre a r
    have e2 : rd_T24 y.f2 (pre.length : Int) = b := by rw [hp', hl]; exact rd_mid pre' b s
    have hn : wrap64 ((pre.length : Int) + 1) = ((pre ++ [a]).length : Int) := next_mid (r := r) (x := a) (by rw [← hp]; exact hx.len)
    refine Ev.step (f := fun k => semigroupref04_Compare.j1 k (pre.length : Int) true x.f0 x.f1 x.f2 y.f0 y.f1 y.f2) (fun k => by simp only [semigroupref04_Compare.l0]; rw [if_pos hlt, decide_eq_true hlt']) ?_
    refine Ev.step (f := fun k => (semigroupref04_Compare.f k a.f0 a.f1 a.f2 b.f0 b.f1 b.f2).bind fun t => if t = 0 then semigroupref04_Compare.l0 k ((pre ++ [a]).length : Int) x.f0 x.f1 x.f2 y.f0 y.f1 y.f2 else some t) (fun k => by simp only [semigroupref04_Compare.j1]; rw [if_pos trivial, if_pos (ge0 _), if_pos hlt, if_pos hlt', e1, e2, hn]) ?_
    refine Ev.bind (ih a ha (hx.kid ha) b (hy.kid hb)) ?_
    rw [cmps]
    exact Ev.if (fun _ => ihr (pre ++ [a]) (by rw [hp]; exact shift_mid pre a r) s (pre' ++ [b]) (by rw [hp']; exact shift_mid pre' b s) (by simp [hl])) (fun _ => Ev.now _)
 by_cases h0 : x.f0 = y.f0
 ·by_cases h1 : x.f1 = y.f1
  ·refine Ev.step (f := fun k => semigroupref04_Compare.l0 k 0 x.f0 x.f1 x.f2 y.f0 y.f1 y.f2) (fun k => by simp only [semigroupref04_Compare.f]; rw [if_pos h0, if_pos h1]) ?_
   rw [cmp_mk, if_pos (ordI_zero.mpr h0), if_pos (ordI_zero.mpr h1)]
   exact loop x.f2 [] rfl y.f2 [] rfl rfl
  ·refine Ev.step (f := fun k => some (cmp x y)) (fun k => by simp only [semigroupref04_Compare.f]; rw [if_pos h0, if_neg h1, sign_some, cmp_mk, if_pos (ordI_zero.mpr h0), if_neg (fun h => h1 (ordI_zero.mp h)), ordI_ne h1]; rfl) (Ev.now _)
 ·refine Ev.step (f := fun k => some (cmp x y)) (fun k => by simp only [semigroupref04_Compare.f]; rw [if_neg h0, sign_some, cmp_mk, if_neg (fun h => h0 (ordI_zero.mp h)), ordI_ne h0]; rfl) (Ev.now _)
theorem ordI_anti (a b : Int) : ordI b a = - ordI a b := by
 unfold ordI; split <;> split <;> (try split) <;> omega
theorem cmp_anti (x : S24) : ∀ y, cmp y x = - cmp x y := by
 induction x using ind with
 | h x ih =>
 intro y
 have ihs : ∀ l : List S24, (∀ k, k ∈ l → ∀ y, cmp y k = - cmp k y) → ∀ m, cmps m l = - cmps l m := by
  intro l
  induction l with
  | nil => intro _ m; cases m <;> simp [cmps]
  | cons a r ihr =>
   intro h m
   cases m with
   | nil => simp [cmps]
   | cons b s =>
    have h1 := h a (by simp) b
    have h2 := ihr (fun k hk => h k (by simp [hk])) s
    rw [cmps, cmps, h1, h2]
    by_cases hz : cmp a b = 0
    ·simp [hz]
    ·have : ¬ (- cmp a b = 0) := by omega
     rw [if_neg hz, if_neg this]
 rw [cmp_mk, cmp_mk x, ordI_anti x.f0 y.f0, ordI_anti x.f1 y.f1, ihs x.f2 ih y.f2]
 by_cases h0 : ordI x.f0 y.f0 = 0
 ·by_cases h1 : ordI x.f1 y.f1 = 0
  ·simp [h0, h1]
  ·have : ¬ (- ordI x.f1 y.f1 = 0) := by omega
   simp [h0, h1]
 ·simp [h0]
theorem cmp_refl (x : S24) : cmp x x = 0 := by
 have := cmp_anti x x
 omega
theorem ordI_trans {a b c : Int} (h1 : ordI a b ≤ 0) (h2 : ordI b c ≤ 0) : ordI a c ≤ 0 ∧ (ordI a c = 0 → ordI a b = 0 ∧ ordI b c = 0) := by
 have q1 : a ≤ b := by unfold ordI at h1; split at h1 <;> (try split at h1) <;> omega
 have q2 : b ≤ c := by unfold ordI at h2; split at h2 <;> (try split at h2) <;> omega
 refine ⟨?_, fun h => ?_⟩
 ·unfold ordI; split
  ·omega
  ·split <;> omega
 ·have := ordI_zero.mp h
  exact ⟨ordI_zero.mpr (by omega), ordI_zero.mpr (by omega)⟩
theorem cmp_trans (x : S24) : ∀ y z, cmp x y ≤ 0 → cmp y z ≤ 0 → cmp x z ≤ 0 ∧ (cmp x z = 0 → cmp x y = 0 ∧ cmp y z = 0) := by
 induction x using ind with
 | h x ih =>
 intro y z h1 h2
 have ihs : ∀ l : List S24, (∀ k, k ∈ l → ∀ y z, cmp k y ≤ 0 → cmp y z ≤ 0 → cmp k z ≤ 0 ∧ (cmp k z = 0 → cmp k y = 0 ∧ cmp y z = 0)) → ∀ m n, cmps l m ≤ 0 → cmps m n ≤ 0 → cmps l n ≤ 0 ∧ (cmps l n = 0 → cmps l m = 0 ∧ cmps m n = 0) := by
  intro l
  induction l with
  | nil => intro _ m n h1 h2; cases m <;> cases n <;> simp [cmps] at h1 h2 ⊢
  | cons a r ihr =>
   intro hk m n h1 h2
   cases m with
   | nil => simp [cmps] at h1
   | cons b s =>
    cases n with
    | nil => simp [cmps] at h2
    | cons c t =>
     rw [cmps] at h1 h2 ⊢
     rw [cmps, cmps]
     have g1 : cmp a b ≤ 0 := by by_cases hz : cmp a b = 0 <;> simp [hz] at h1 <;> omega
     have g2 : cmp b c ≤ 0 := by by_cases hz : cmp b c = 0 <;> simp [hz] at h2 <;> omega
     obtain ⟨k1, k2⟩ := hk a (by simp) b c g1 g2
     by_cases hz : cmp a c = 0
     ·obtain ⟨z1, z2⟩ := k2 hz
      rw [if_pos z1] at h1 ⊢
      rw [if_pos z2] at h2 ⊢
      rw [if_pos hz]
      exact ihr (fun k hk' => hk k (by simp [hk'])) s t h1 h2
     ·rw [if_neg hz]
      exact ⟨k1, fun h => absurd h hz⟩
 rw [cmp_mk] at h1 h2 ⊢
 rw [cmp_mk x y, cmp_mk y z]
 have g1 : ordI x.f0 y.f0 ≤ 0 := by by_cases hz : ordI x.f0 y.f0 = 0 <;> simp [hz] at h1 <;> omega
 have g2 : ordI y.f0 z.f0 ≤ 0 := by by_cases hz : ordI y.f0 z.f0 = 0 <;> simp [hz] at h2 <;> omega
 obtain ⟨k1, k2⟩ := ordI_trans g1 g2
 by_cases hz : ordI x.f0 z.f0 = 0
 ·obtain ⟨z1, z2⟩ := k2 hz
  rw [if_pos z1] at h1 ⊢
  rw [if_pos z2] at h2 ⊢
  rw [if_pos hz]
  have g1 : ordI x.f1 y.f1 ≤ 0 := by by_cases hz : ordI x.f1 y.f1 = 0 <;> simp [hz] at h1 <;> omega
  have g2 : ordI y.f1 z.f1 ≤ 0 := by by_cases hz : ordI y.f1 z.f1 = 0 <;> simp [hz] at h2 <;> omega
  obtain ⟨k1, k2⟩ := ordI_trans g1 g2
  by_cases hz : ordI x.f1 z.f1 = 0
  ·obtain ⟨z1, z2⟩ := k2 hz
   rw [if_pos z1] at h1 ⊢
   rw [if_pos z2] at h2 ⊢
   rw [if_pos hz]
   exact ihs x.f2 ih y.f2 z.f2 h1 h2
  ·rw [if_neg hz]
   exact ⟨k1, fun h => absurd h hz⟩
 ·rw [if_neg hz]
  exact ⟨k1, fun h => absurd h hz⟩
theorem cmp_range (x : S24) : ∀ y, -1 ≤ cmp x y ∧ cmp x y ≤ 1 := by
 induction x using ind with
 | h x ih =>
 intro y
 have o : ∀ a b, -1 ≤ ordI a b ∧ ordI a b ≤ 1 := fun a b => by unfold ordI; split <;> (try split) <;> omega
 have ihs : ∀ l : List S24, (∀ k, k ∈ l → ∀ y, -1 ≤ cmp k y ∧ cmp k y ≤ 1) → ∀ m, -1 ≤ cmps l m ∧ cmps l m ≤ 1 := by
  intro l
  induction l with
  | nil => intro _ m; cases m <;> simp [cmps]
  | cons a r ihr =>
   intro hk m
   cases m with
   | nil => simp [cmps]
   | cons b s =>
    rw [cmps]
    split
    ·exact ihr (fun k hk' => hk k (by simp [hk'])) s
    ·exact hk a (by simp) b
 rw [cmp_mk]
 split
 ·split
  ·exact ihs x.f2 ih y.f2
  ·exact o _ _
 ·exact o _ _
theorem same_ev (x y : S24) (hx : WF x) (hy : WF y) : Ev (fun k => semigrouplaw04_same.f k x.f0 x.f1 x.f2 y.f0 y.f1 y.f2) (cmp x y == 0) :=
 Ev.congr (f := fun k => (semigroupref04_Compare.f k x.f0 x.f1 x.f2 y.f0 y.f1 y.f2).bind fun t => some (t == 0)) (fun k => by simp only [semigrouplaw04_same.f]) (Ev.bind (f := fun _ t => some (t == 0)) (cmp_ref x hx y hy) (Ev.now _))
theorem expr_cmp_ev (x y : S24) (hx : WF x) (hy : WF y) : Ev (fun k => expr_Compare.f k x.f0 x.f1 x.f2 y.f0 y.f1 y.f2) (cmp x y) :=
 Ev.congr (f := fun k => (simplify_Compare.f k x.f0 x.f1 x.f2 y.f0 y.f1 y.f2).bind fun t => some t) (fun k => by simp only [expr_Compare.f]) (Ev.bind (f := fun _ t => some t) (cmp_prog x hx y hy) (Ev.now _))
end Go.Proofs.Ytjofkebiacaciaa.T04
end
section
namespace Go.Proofs.Ytjofkebiacaciaa.Pure
open Go Go.RowKit Go.Proofs.Ytjofkebiacaciaa.PAll Go.Proofs.YtjofkebiacaciaaW.PrintWords Go.Proofs.YtjofkebiacaciaaW.PrintLast Go.Proofs.Ytjofkebiacaciaa.AllRead24 Go.Proofs.Ytjofkebiacaciaa.T04
set_option linter.all false
theorem ExprCompares (a b c : S24) (ha : WF a) (hb : WF b) (hc : WF c) : ∃ k, semigrouplaw04_ExprCompares.f k a.f0 a.f1 a.f2 b.f0 b.f1 b.f2 c.f0 c.f1 c.f2 = some true := by
 have aw : Ev (fun k => (semigrouplaw04_awake.f k).bind fun z => some z) true := Ev.bind (f := fun _ z => some z) awake_ev (Ev.now _)
 have j0 : Ev (fun k => semigrouplaw04_ExprCompares.j0 k (cmp a b) false a.f0 a.f1 a.f2 b.f0 b.f1 b.f2 c.f0 c.f1 c.f2) true := by
  refine Ev.to (Ev.step (f := fun k => if cmp a b ≤ 0 then (expr_Compare.f k b.f0 b.f1 b.f2 c.f0 c.f1 c.f2).bind (fun t => if t ≤ 0 then (expr_Compare.f k a.f0 a.f1 a.f2 c.f0 c.f1 c.f2).bind (fun u => if u > 0 then some false else (semigrouplaw04_awake.f k).bind fun z => some z) else (semigrouplaw04_awake.f k).bind fun z => some z) else (semigrouplaw04_awake.f k).bind fun z => some z) (fun k => by simp only [semigrouplaw04_ExprCompares.j0]; rw [if_neg (by decide)]) (Ev.if (y := true) (x := true) (fun h1 => Ev.bind (expr_cmp_ev b c hb hc) ?_) (fun _ => aw))) (by split <;> rfl)
  refine Ev.to (Ev.if (y := true) (x := true) (fun h2 => Ev.bind (expr_cmp_ev a c ha hc) ?_) (fun _ => aw)) (by split <;> rfl)
  have := (cmp_trans a b c h1 h2).1
  simp only [if_neg (show ¬ cmp a c > 0 by omega)]
  exact aw
 have hr := cmp_range a b
 refine Ev.rounds (g := fun k => semigrouplaw04_ExprCompares.f k a.f0 a.f1 a.f2 b.f0 b.f1 b.f2 c.f0 c.f1 c.f2) ?_
 refine Ev.congr (fun k => by simp only [semigrouplaw04_ExprCompares.f]; rfl) ?_
 refine Ev.bind (expr_cmp_ev a b ha hb) (Ev.bind (cmp_ref a ha b hb) ?_)
 simp only [if_true]
 refine Ev.bind (expr_cmp_ev b a hb ha) ?_
 have hn : cmp b a = wrap64 (- cmp a b) := by rw [w64 (by omega) (by omega)]; exact cmp_anti a b
 simp only [if_pos hn]
 refine Ev.bind (expr_cmp_ev a a ha ha) ?_
 rw [cmp_refl]
 exact j0
end Go.Proofs.Ytjofkebiacaciaa.Pure
end
