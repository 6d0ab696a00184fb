/- The functions that the laws of this seat reach, a proof for each that the Go code comes to them, and the plain laws; merged. Conditions: none beside those of the given statements. -/
import Derived.Test.YtjofkebiacaciaaMc14
import Derived.Test.YtjofkebiacaciaaMc16
section
namespace Go.Proofs.Ytjofkebiacaciaa.PAll
open Go.RowKit Go.Proofs.YtjofkebiacaciaaW.PrintWords Go.Proofs.YtjofkebiacaciaaW.PrintLast Go.Proofs.YtjofkebiacaciaaW.PrintMore
attribute [local go_sem] max2_int min2_int max_two min_two max_three min_three max_four min_four
set_option linter.unusedVariables false
set_option linter.unusedSimpArgs false
def semigroupref01_MayLetters.f (a0 : Int) : Option (Bool) := if a0 ≥ 1 then (some (decide (a0 ≤ 6))) else (some false)
set_option maxHeartbeats 8000000 in
set_option maxRecDepth 100000 in
theorem semigroupref01_MayLetters.calls (a0 : Int) (r : Bool) (w : World) (h : semigroupref01_MayLetters.f a0 = some r) :
  Calls Try.prog 43 #[.int .i64 a0] w fun e w' => e = .returned (.bool r) ∧ Drawn0 w w' := by
 have H : (if a0 ≥ 1 then (some (decide (a0 ≤ 6))) else (some false)) = some r := h
 clear h
 by_cases c2 : a0 ≥ 1
 ·rw [if_pos c2] at H
  have c2b0 : decide (1 ≤ a0) = true := decide_eq_true c2
  clear c2
  obtain rfl := Option.some.inj H
  go_enter Try.func43, Try.ntmps43
  go_wp2
  go_ret
  exact ⟨by first | rfl | (simp; done) | (simp [*]; done), by repeat (first | exact Drawn0.refl _ | apply Drawn0.step)⟩
 ·rw [if_neg c2] at H
  have c2b0 : decide (1 ≤ a0) = false := decide_eq_false c2
  clear c2
  obtain rfl := Option.some.inj H
  go_enter Try.func43, Try.ntmps43
  go_wp2
  go_ret
  exact ⟨by first | rfl | (simp; done) | (simp [*]; done), by repeat (first | exact Drawn0.refl _ | apply Drawn0.step)⟩
end Go.Proofs.Ytjofkebiacaciaa.PAll
end
section
namespace Go.Proofs.Ytjofkebiacaciaa.PAll
open Go.RowKit Go.Proofs.YtjofkebiacaciaaW.PrintWords Go.Proofs.YtjofkebiacaciaaW.PrintLast Go.Proofs.YtjofkebiacaciaaW.PrintMore
attribute [local go_sem] max2_int min2_int max_two min_two max_three min_three max_four min_four
set_option linter.unusedVariables false
set_option linter.unusedSimpArgs false
mutual
def semigroupref04_shaped.j0 : Nat → Int → Int → Bool → Int → Int → List (S24) → Option (Bool)
 | 0, _, _, _, _, _, _ => none
 | k + 1, x1, x5, x6, x116000, x116001, x116002 => if x116000 = 1 then (semigroupref04_shaped.j1 k x1 x5 x6 x116000 (x116000 == 1) x116000 x116001 x116002) else (if x116000 = 2 then (semigroupref04_shaped.j1 k x1 x5 x6 x116000 (x116000 == 2) x116000 x116001 x116002) else (semigroupref04_shaped.j1 k x1 x5 x6 x116000 (x116000 == 3) x116000 x116001 x116002))
def semigroupref04_shaped.j2 : Nat → Int → Int → Bool → Int → Int → List (S24) → Option (Bool)
 | 0, _, _, _, _, _, _ => none
 | k + 1, x1, x5, x6, x116000, x116001, x116002 => if x116000 = 3 then (if x6 = true then (if x116001 ≥ 0 then (semigroupref04_shaped.j3 k x1 x5 (decide (x116001 < x1)) x116000 x116001 x116002) else (semigroupref04_shaped.j3 k x1 x5 false x116000 x116001 x116002)) else (semigroupref04_shaped.j3 k x1 x5 false x116000 x116001 x116002)) else (if x6 = true then (semigroupref04_shaped.j3 k x1 x5 (x116001 == 0) x116000 x116001 x116002) else (semigroupref04_shaped.j3 k x1 x5 false x116000 x116001 x116002))
def semigroupref04_shaped.j3 : Nat → Int → Int → Bool → Int → Int → List (S24) → Option (Bool)
 | 0, _, _, _, _, _, _ => none
 | k + 1, x1, x5, x6, x116000, x116001, x116002 => semigroupref04_shaped.l0 k x1 x5 x6 0 x116000 x116001 x116002
def semigroupref04_shaped.l0 : Nat → Int → Int → Bool → Int → Int → Int → List (S24) → Option (Bool)
 | 0, _, _, _, _, _, _, _ => none
 | k + 1, x1, x5, x6, x7, x116000, x116001, x116002 => if x7 < x5 then (if x6 = true then (if 0 ≤ x7 then (if x7 < (x116002.length : Int) then ((semigroupref04_shaped.f k ((rd_T24 x116002 x7).f0) ((rd_T24 x116002 x7).f1) ((rd_T24 x116002 x7).f2) x1).bind fun t117 => (semigroupref04_shaped.l0 k x1 x5 t117 (wrap64 (x7 + 1)) x116000 x116001 x116002)) else (none)) else (none)) else (some x6)) else (some x6)
def semigroupref04_shaped.j1 : Nat → Int → Int → Bool → Int → Bool → Int → Int → List (S24) → Option (Bool)
 | 0, _, _, _, _, _, _, _, _ => none
 | k + 1, x1, x5, x6, x20, x26, x116000, x116001, x116002 => if x26 = true then (semigroupref04_shaped.j2 k x1 x5 (x5 == 0) x116000 x116001 x116002) else (if x20 = 7 then (semigroupref04_shaped.j2 k x1 x5 (x5 == 1) x116000 x116001 x116002) else (if x20 = 8 then (semigroupref04_shaped.j2 k x1 x5 (x5 == 1) x116000 x116001 x116002) else (if x6 = true then (semigroupref04_shaped.j2 k x1 x5 (decide (x5 ≥ 2)) x116000 x116001 x116002) else (semigroupref04_shaped.j2 k x1 x5 false x116000 x116001 x116002))))
def semigroupref04_shaped.f : Nat → Int → Int → List (S24) → Int → Option (Bool)
 | 0, _, _, _, _ => none
 | k + 1, a0_0, a0_1, l0_2, a1 => if a0_0 ≥ 1 then (semigroupref04_shaped.j0 k a1 (l0_2.length : Int) (decide (a0_0 ≤ 8)) a0_0 a0_1 l0_2) else (semigroupref04_shaped.j0 k a1 (l0_2.length : Int) false a0_0 a0_1 l0_2)
end
theorem semigroupref04_shaped.mono_l : ∀ k, (∀ y0 y1 y2 y3, LeO (semigroupref04_shaped.f k y0 y1 y2 y3) (semigroupref04_shaped.f (k + 1) y0 y1 y2 y3)) ∧ (∀ y0 y1 y2 y3 y4 y5, LeO (semigroupref04_shaped.j0 k y0 y1 y2 y3 y4 y5) (semigroupref04_shaped.j0 (k + 1) y0 y1 y2 y3 y4 y5)) ∧ (∀ y0 y1 y2 y3 y4 y5, LeO (semigroupref04_shaped.j2 k y0 y1 y2 y3 y4 y5) (semigroupref04_shaped.j2 (k + 1) y0 y1 y2 y3 y4 y5)) ∧ (∀ y0 y1 y2 y3 y4 y5, LeO (semigroupref04_shaped.j3 k y0 y1 y2 y3 y4 y5) (semigroupref04_shaped.j3 (k + 1) y0 y1 y2 y3 y4 y5)) ∧ (∀ y0 y1 y2 y3 y4 y5 y6, LeO (semigroupref04_shaped.l0 k y0 y1 y2 y3 y4 y5 y6) (semigroupref04_shaped.l0 (k + 1) y0 y1 y2 y3 y4 y5 y6)) ∧ (∀ y0 y1 y2 y3 y4 y5 y6 y7, LeO (semigroupref04_shaped.j1 k y0 y1 y2 y3 y4 y5 y6 y7) (semigroupref04_shaped.j1 (k + 1) y0 y1 y2 y3 y4 y5 y6 y7))
 | 0 => ⟨fun _ _ _ _ r h => by simp [semigroupref04_shaped.f] at h, fun _ _ _ _ _ _ r h => by simp [semigroupref04_shaped.j0] at h, fun _ _ _ _ _ _ r h => by simp [semigroupref04_shaped.j2] at h, fun _ _ _ _ _ _ r h => by simp [semigroupref04_shaped.j3] at h, fun _ _ _ _ _ _ _ r h => by simp [semigroupref04_shaped.l0] at h, fun _ _ _ _ _ _ _ _ r h => by simp [semigroupref04_shaped.j1] at h⟩
 | k + 1 => by
  obtain ⟨ih0, ih1, ih2, ih3, ih4, ih5⟩ := semigroupref04_shaped.mono_l k
  refine ⟨?_, ?_, ?_, ?_, ?_, ?_⟩
  ·intro y0 y1 y2 y3
   unfold semigroupref04_shaped.f
   repeat' first
   | (with_reducible exact ih0 _ _ _ _)
   | (with_reducible exact ih1 _ _ _ _ _ _)
   | (with_reducible exact ih2 _ _ _ _ _ _)
   | (with_reducible exact ih3 _ _ _ _ _ _)
   | (with_reducible exact ih4 _ _ _ _ _ _ _)
   | (with_reducible exact ih5 _ _ _ _ _ _ _ _)
   | (with_reducible exact LeO.refl _)
   | (with_reducible exact LeO.none _)
   | (with_reducible refine LeO.ite ?_ ?_)
   | (with_reducible refine LeO.bind ?_ (fun _ => ?_))
   | exact ih0 _ _ _ _
   | exact ih1 _ _ _ _ _ _
   | exact ih2 _ _ _ _ _ _
   | exact ih3 _ _ _ _ _ _
   | exact ih4 _ _ _ _ _ _ _
   | exact ih5 _ _ _ _ _ _ _ _
   | exact LeO.none _
   | refine LeO.ite ?_ ?_
   | refine LeO.bind ?_ (fun _ => ?_)
  ·intro y0 y1 y2 y3 y4 y5
   unfold semigroupref04_shaped.j0
   repeat' first
   | (with_reducible exact ih0 _ _ _ _)
   | (with_reducible exact ih1 _ _ _ _ _ _)
   | (with_reducible exact ih2 _ _ _ _ _ _)
   | (with_reducible exact ih3 _ _ _ _ _ _)
   | (with_reducible exact ih4 _ _ _ _ _ _ _)
   | (with_reducible exact ih5 _ _ _ _ _ _ _ _)
   | (with_reducible exact LeO.refl _)
   | (with_reducible exact LeO.none _)
   | (with_reducible refine LeO.ite ?_ ?_)
   | (with_reducible refine LeO.bind ?_ (fun _ => ?_))
   | exact ih0 _ _ _ _
   | exact ih1 _ _ _ _ _ _
   | exact ih2 _ _ _ _ _ _
   | exact ih3 _ _ _ _ _ _
   | exact ih4 _ _ _ _ _ _ _
   | exact ih5 _ _ _ _ _ _ _ _
   | exact LeO.none _
   | refine LeO.ite ?_ ?_
   | refine LeO.bind ?_ (fun _ => ?_)
  ·intro y0 y1 y2 y3 y4 y5
   unfold semigroupref04_shaped.j2
   repeat' first
   | (with_reducible exact ih0 _ _ _ _)
   | (with_reducible exact ih1 _ _ _ _ _ _)
   | (with_reducible exact ih2 _ _ _ _ _ _)
   | (with_reducible exact ih3 _ _ _ _ _ _)
   | (with_reducible exact ih4 _ _ _ _ _ _ _)
   | (with_reducible exact ih5 _ _ _ _ _ _ _ _)
   | (with_reducible exact LeO.refl _)
   | (with_reducible exact LeO.none _)
   | (with_reducible refine LeO.ite ?_ ?_)
   | (with_reducible refine LeO.bind ?_ (fun _ => ?_))
   | exact ih0 _ _ _ _
   | exact ih1 _ _ _ _ _ _
   | exact ih2 _ _ _ _ _ _
   | exact ih3 _ _ _ _ _ _
   | exact ih4 _ _ _ _ _ _ _
   | exact ih5 _ _ _ _ _ _ _ _
   | exact LeO.none _
   | refine LeO.ite ?_ ?_
   | refine LeO.bind ?_ (fun _ => ?_)
  ·intro y0 y1 y2 y3 y4 y5
   unfold semigroupref04_shaped.j3
   repeat' first
   | (with_reducible exact ih0 _ _ _ _)
   | (with_reducible exact ih1 _ _ _ _ _ _)
   | (with_reducible exact ih2 _ _ _ _ _ _)
   | (with_reducible exact ih3 _ _ _ _ _ _)
   | (with_reducible exact ih4 _ _ _ _ _ _ _)
   | (with_reducible exact ih5 _ _ _ _ _ _ _ _)
   | (with_reducible exact LeO.refl _)
   | (with_reducible exact LeO.none _)
   | (with_reducible refine LeO.ite ?_ ?_)
   | (with_reducible refine LeO.bind ?_ (fun _ => ?_))
   | exact ih0 _ _ _ _
   | exact ih1 _ _ _ _ _ _
   | exact ih2 _ _ _ _ _ _
   | exact ih3 _ _ _ _ _ _
   | exact ih4 _ _ _ _ _ _ _
   | exact ih5 _ _ _ _ _ _ _ _
   | exact LeO.none _
   | refine LeO.ite ?_ ?_
   | refine LeO.bind ?_ (fun _ => ?_)
  ·intro y0 y1 y2 y3 y4 y5 y6
   unfold semigroupref04_shaped.l0
   repeat' first
   | (with_reducible exact ih0 _ _ _ _)
   | (with_reducible exact ih1 _ _ _ _ _ _)
   | (with_reducible exact ih2 _ _ _ _ _ _)
   | (with_reducible exact ih3 _ _ _ _ _ _)
   | (with_reducible exact ih4 _ _ _ _ _ _ _)
   | (with_reducible exact ih5 _ _ _ _ _ _ _ _)
   | (with_reducible exact LeO.refl _)
   | (with_reducible exact LeO.none _)
   | (with_reducible refine LeO.ite ?_ ?_)
   | (with_reducible refine LeO.bind ?_ (fun _ => ?_))
   | exact ih0 _ _ _ _
   | exact ih1 _ _ _ _ _ _
   | exact ih2 _ _ _ _ _ _
   | exact ih3 _ _ _ _ _ _
   | exact ih4 _ _ _ _ _ _ _
   | exact ih5 _ _ _ _ _ _ _ _
   | exact LeO.none _
   | refine LeO.ite ?_ ?_
   | refine LeO.bind ?_ (fun _ => ?_)
  ·intro y0 y1 y2 y3 y4 y5 y6 y7
   unfold semigroupref04_shaped.j1
   repeat' first
   | (with_reducible exact ih0 _ _ _ _)
   | (with_reducible exact ih1 _ _ _ _ _ _)
   | (with_reducible exact ih2 _ _ _ _ _ _)
   | (with_reducible exact ih3 _ _ _ _ _ _)
   | (with_reducible exact ih4 _ _ _ _ _ _ _)
   | (with_reducible exact ih5 _ _ _ _ _ _ _ _)
   | (with_reducible exact LeO.refl _)
   | (with_reducible exact LeO.none _)
   | (with_reducible refine LeO.ite ?_ ?_)
   | (with_reducible refine LeO.bind ?_ (fun _ => ?_))
   | exact ih0 _ _ _ _
   | exact ih1 _ _ _ _ _ _
   | exact ih2 _ _ _ _ _ _
   | exact ih3 _ _ _ _ _ _
   | exact ih4 _ _ _ _ _ _ _
   | exact ih5 _ _ _ _ _ _ _ _
   | exact LeO.none _
   | refine LeO.ite ?_ ?_
   | refine LeO.bind ?_ (fun _ => ?_)
theorem semigroupref04_shaped.mono : ∀ a0 a1 a2 a3 k, LeO (semigroupref04_shaped.f k a0 a1 a2 a3) (semigroupref04_shaped.f (k + 1) a0 a1 a2 a3) := by
 intro a0 a1 a2 a3 k
 obtain ⟨ih0, ih1, ih2, ih3, ih4, ih5⟩ := semigroupref04_shaped.mono_l k
 exact ih0 a0 a1 a2 a3
set_option maxHeartbeats 8000000 in
set_option maxRecDepth 100000 in
theorem semigroupref04_shaped.calls (k : Nat) : ∀ (a0_0 : Int) (a0_1 : Int) (A0_2 : Option Addr) (c0_2 : Nat) (l0_2 : List (S24)) (a1 : Int) (r : Bool) (w : World) (hr0_2 : Kd.C k24 w A0_2 l0_2.length l0_2) (hc0_2 : l0_2.length ≤ c0_2) (h : semigroupref04_shaped.f k a0_0 a0_1 l0_2 a1 = some r),
  Calls Try.prog 45 #[.agg #[.int .i64 a0_0, .int .i64 a0_1, .slice A0_2 l0_2.length c0_2], .int .i64 a1] w fun e w' => e = .returned (.bool r) ∧ Below w.heap.size w w' := by
 induction k using Nat.strongRecOn with
 | _ k ih =>
 intro a0_0 a0_1 A0_2 c0_2 l0_2 a1 r w hr0_2 hc0_2 h
 cases k with
 | zero => exact absurd h (by simp [semigroupref04_shaped.f])
 | succ k =>
 simp only [semigroupref04_shaped.f] at h
 have hu24 := Try.underlying24
 have HR0_2 := Aside0.mk hr0_2
 have HC0_2 := Aside0.mk hc0_2
 clear hr0_2 hc0_2
 have HB := Aside0.mk (Below.refl w.heap.size w)
 have H : (if a0_0 ≥ 1 then (semigroupref04_shaped.j0 k a1 (l0_2.length : Int) (decide (a0_0 ≤ 8)) a0_0 a0_1 l0_2) else (semigroupref04_shaped.j0 k a1 (l0_2.length : Int) false a0_0 a0_1 l0_2)) = some r := h
 clear h
 have HC3 := Aside0.mk H
 clear H
 go_enter Try.func45, Try.ntmps45
 go_upto_region 2 with (first | ((with_reducible refine gate_dst (N := 2) rfl ?_); refine box_event ?hg (N := 2) ?hd (cs := #[.int .i64 a0_0, .int .i64 a0_1, .slice A0_2 l0_2.length c0_2]) (t := 24) ?hr ?_; (case hd => rfl); (case hg => rfl); (case hr => first | (go_simp; done) | (go_simp; rfl)); intro gb115 hg w4 hbox hb; have n0_ := Aside0.mk (below_step (bB) hb); have n1_ := Aside0.mk (hbox); have n2_ := Aside0.mk ((by rw [hg]; exact (below_size (bB)) : w.heap.size ≤ gb115)); have n3_ := Aside0.mk ((by rw [hg]; exact (below_size (bB)) : w.heap.size ≤ gb115)); clear HB; have HB := n0_; have BK115 := n1_; have GW115 := n2_; have GE115 := n3_; clear n0_ n1_ n2_ n3_; clear hb hbox hg; have hcz5_0 : w4.cell? ⟨gb115, 0, none⟩ = some (.int .i64 a0_0) := (blk_cell BK115.out 0).trans rfl; have hcz5_1 : w4.cell? ⟨gb115, 1, none⟩ = some (.int .i64 a0_1) := (blk_cell BK115.out 1).trans rfl; have hcz5_2 : w4.cell? ⟨gb115, 2, none⟩ = some (.slice A0_2 l0_2.length c0_2) := (blk_cell BK115.out 2).trans rfl; have hfz5_0 := blk_frozen BK115.out 0; have hfz5_1 := blk_frozen BK115.out 1; have hfz5_2 := blk_frozen BK115.out 2))
 (try simp only [Act.put, List.setIfInBounds_toArray, List.set_cons_zero, List.set_cons_succ])
 go_cut [6] (fun v6 wc => ∃ (kq : Nat) (x6_2 : Bool), v6 = .bool x6_2 ∧ Aside0 (semigroupref04_shaped.j0 kq a1 (l0_2.length : Int) x6_2 a0_0 a0_1 l0_2 = some r) ∧ Aside0 (kq ≤ k) ∧ Aside0 (wc.heap[gb115]? = some (.cells #[.int .i64 a0_0, .int .i64 a0_1, (.slice A0_2 l0_2.length c0_2)] 24 (0, 0))) ∧ Aside0 (Below w.heap.size w wc))
 case first =>
  have H := HC3.out
  clear HC3
  by_cases c6 : a0_0 ≥ 1
  ·rw [if_pos c6] at H
   have c6b0 : decide (1 ≤ a0_0) = true := decide_eq_true c6
   clear c6
   (first | rw [c6b0] | (simp only [i64_w, i32_w]; rw [c6b0]) | skip)
   have H' := Aside0.mk H
   clear H
   have hcz7_0 : w4.cell? ⟨gb115, 0, none⟩ = some (.int .i64 a0_0) := (blk_cell BK115.out 0).trans rfl
   have hcz7_1 : w4.cell? ⟨gb115, 1, none⟩ = some (.int .i64 a0_1) := (blk_cell BK115.out 1).trans rfl
   have hcz7_2 : w4.cell? ⟨gb115, 2, none⟩ = some (.slice A0_2 l0_2.length c0_2) := (blk_cell BK115.out 2).trans rfl
   have hfz7_0 := blk_frozen BK115.out 0
   have hfz7_1 := blk_frozen BK115.out 1
   have hfz7_2 := blk_frozen BK115.out 2
   go_wp2
   go_meet
   case rel => exact ⟨_, (decide (a0_0 ≤ 8)), (by first | rfl | (simp; done) | (simp [*]; done)), H', ⟨by first | omega | exact Nat.le_refl _⟩, ⟨bK⟩, ⟨bB⟩⟩
  ·rw [if_neg c6] at H
   have c6b0 : decide (1 ≤ a0_0) = false := decide_eq_false c6
   clear c6
   (first | rw [c6b0] | (simp only [i64_w, i32_w]; rw [c6b0]) | skip)
   have H' := Aside0.mk H
   clear H
   have hcz8_0 : w4.cell? ⟨gb115, 0, none⟩ = some (.int .i64 a0_0) := (blk_cell BK115.out 0).trans rfl
   have hcz8_1 : w4.cell? ⟨gb115, 1, none⟩ = some (.int .i64 a0_1) := (blk_cell BK115.out 1).trans rfl
   have hcz8_2 : w4.cell? ⟨gb115, 2, none⟩ = some (.slice A0_2 l0_2.length c0_2) := (blk_cell BK115.out 2).trans rfl
   have hfz8_0 := blk_frozen BK115.out 0
   have hfz8_1 := blk_frozen BK115.out 1
   have hfz8_2 := blk_frozen BK115.out 2
   go_wp2
   go_meet
   case rel => exact ⟨_, (false), (by first | rfl | (simp; done) | (simp [*]; done)), H', ⟨by first | omega | exact Nat.le_refl _⟩, ⟨bK⟩, ⟨bB⟩⟩
 case rest =>
  clear HC3
  try clear p2
  try clear c4
  try clear c6
  try clear c6b0
  try clear hcz5_0
  try clear hcz5_1
  try clear hcz5_2
  try clear hcz7_0
  try clear hcz7_1
  try clear hcz7_2
  try clear hcz8_0
  try clear hcz8_1
  try clear hcz8_2
  try clear hfz5_0
  try clear hfz5_1
  try clear hfz5_2
  try clear hfz7_0
  try clear hfz7_1
  try clear hfz7_2
  try clear hfz8_0
  try clear hfz8_1
  try clear hfz8_2
  obtain ⟨kq, x6_2, rfl, HA, HJ2, BK115, HB⟩ := hcut
  cases kq with
  | zero => exact absurd HA.out (by simp [semigroupref04_shaped.j0])
  | succ kj2 =>
   have H := HA.out
   clear HA
   simp only [semigroupref04_shaped.j0] at H
   have HC9 := Aside0.mk H
   clear H
   have hcz10_0 : wc.cell? ⟨gb115, 0, none⟩ = some (.int .i64 a0_0) := (blk_cell BK115.out 0).trans rfl
   have hcz10_1 : wc.cell? ⟨gb115, 1, none⟩ = some (.int .i64 a0_1) := (blk_cell BK115.out 1).trans rfl
   have hcz10_2 : wc.cell? ⟨gb115, 2, none⟩ = some (.slice A0_2 l0_2.length c0_2) := (blk_cell BK115.out 2).trans rfl
   have hfz10_0 := blk_frozen BK115.out 0
   have hfz10_1 := blk_frozen BK115.out 1
   have hfz10_2 := blk_frozen BK115.out 2
   go_upto_block 0 with (fail)
   go_cut [6] (fun v6 wc => ∃ (kq : Nat) (x6_8 : Bool), v6 = .bool x6_8 ∧ Aside0 (semigroupref04_shaped.j2 kq a1 (l0_2.length : Int) x6_8 a0_0 a0_1 l0_2 = some r) ∧ Aside0 (kq ≤ kj2) ∧ Aside0 (wc.heap[gb115]? = some (.cells #[.int .i64 a0_0, .int .i64 a0_1, (.slice A0_2 l0_2.length c0_2)] 24 (0, 0))) ∧ Aside0 (Below w.heap.size w wc))
   case first =>
    have H := HC9.out
    clear HC9
    have HC11 := Aside0.mk H
    clear H
    go_upto_if 26 with (fail)
    go_cut [26] (fun v26 wc => ∃ (kq : Nat) (x26_10 : Bool), v26 = .bool x26_10 ∧ Aside0 (semigroupref04_shaped.j1 kq a1 (l0_2.length : Int) x6_2 a0_0 x26_10 a0_0 a0_1 l0_2 = some r) ∧ Aside0 (kq ≤ kj2) ∧ Aside0 (wc.heap[gb115]? = some (.cells #[.int .i64 a0_0, .int .i64 a0_1, (.slice A0_2 l0_2.length c0_2)] 24 (0, 0))) ∧ Aside0 (Below w.heap.size w wc))
    case first =>
     have H := HC11.out
     clear HC11
     by_cases c12 : a0_0 = 1
     ·rw [if_pos c12] at H
      have c12b0 : (a0_0 == 1) = true := beq_iff_eq.mpr c12
      have c12b1 : (a0_0 != 1) = false := bne_eq_false_iff_eq.mpr c12
      clear c12
      (first | rw [c12b0] | (simp only [i64_w, i32_w]; rw [c12b0]) | skip)
      have H' := Aside0.mk H
      clear H
      go_wp2
      go_meet
      case rel => exact ⟨_, ((a0_0 == 1)), (by first | rfl | (simp; done) | (simp [*]; done)), H', ⟨by have := HJ2.out; first | omega | exact Nat.le_refl _⟩, ⟨bK⟩, ⟨bB⟩⟩
     ·rw [if_neg c12] at H
      have c12b0 : (a0_0 == 1) = false := beq_eq_false_iff_ne.mpr c12
      have c12b1 : (a0_0 != 1) = true := bne_iff_ne.mpr c12
      (first | rw [c12b0] | (simp only [i64_w, i32_w]; rw [c12b0]) | skip)
      by_cases c13 : a0_0 = 2
      ·rw [if_pos c13] at H
       have c13b0 : (a0_0 == 2) = true := beq_iff_eq.mpr c13
       have c13b1 : (a0_0 != 2) = false := bne_eq_false_iff_eq.mpr c13
       clear c13
       have H' := Aside0.mk H
       clear H
       go_wp2
       go_meet
       case rel => exact ⟨_, ((a0_0 == 2)), (by first | rfl | (simp; done) | (simp [*]; done)), H', ⟨by have := HJ2.out; first | omega | exact Nat.le_refl _⟩, ⟨bK⟩, ⟨bB⟩⟩
      ·rw [if_neg c13] at H
       have c13b0 : (a0_0 == 2) = false := beq_eq_false_iff_ne.mpr c13
       have c13b1 : (a0_0 != 2) = true := bne_iff_ne.mpr c13
       have H' := Aside0.mk H
       clear H
       go_wp2
       go_meet
       case rel => exact ⟨_, ((a0_0 == 3)), (by first | rfl | (simp; done) | (simp [*]; done)), H', ⟨by have := HJ2.out; first | omega | exact Nat.le_refl _⟩, ⟨bK⟩, ⟨bB⟩⟩
    case rest =>
     clear HC11
     try clear c1
     try clear p2
     try clear c4
     try clear c6
     try clear c6b0
     try clear c12
     try clear c12b0
     try clear c12b1
     try clear c13
     try clear c13b0
     try clear c13b1
     try clear hcz10_0
     try clear hcz10_1
     try clear hcz10_2
     try clear hcz5_0
     try clear hcz5_1
     try clear hcz5_2
     try clear hcz7_0
     try clear hcz7_1
     try clear hcz7_2
     try clear hcz8_0
     try clear hcz8_1
     try clear hcz8_2
     try clear hfz10_0
     try clear hfz10_1
     try clear hfz10_2
     try clear hfz5_0
     try clear hfz5_1
     try clear hfz5_2
     try clear hfz7_0
     try clear hfz7_1
     try clear hfz7_2
     try clear hfz8_0
     try clear hfz8_1
     try clear hfz8_2
     try clear p2
     obtain ⟨kq, x26_10, rfl, HA, HJ10, BK115, HB⟩ := hcut
     cases kq with
     | zero => exact absurd HA.out (by simp [semigroupref04_shaped.j1])
     | succ kj10 =>
      have H := HA.out
      clear HA
      simp only [semigroupref04_shaped.j1] at H
      by_cases c14 : x26_10 = true
      ·subst c14
       have H1 : (semigroupref04_shaped.j2 kj10 a1 (l0_2.length : Int) ((l0_2.length : Int) == 0) a0_0 a0_1 l0_2) = some r := by rw [if_pos rfl] at H; exact H
       clear H
       have H := H1
       clear H1
       have H' := Aside0.mk H
       clear H
       go_wp2
       go_meet
       case rel => exact ⟨_, (((l0_2.length : Int) == 0)), (by first | rfl | (simp; done) | (simp [*]; done)), H', ⟨by have := HJ2.out; have := HJ10.out; first | omega | exact Nat.le_refl _⟩, ⟨bK⟩, ⟨bB⟩⟩
      ·replace c14 := Bool.eq_false_iff.mpr c14
       subst c14
       have H1 : (if a0_0 = 7 then (semigroupref04_shaped.j2 kj10 a1 (l0_2.length : Int) ((l0_2.length : Int) == 1) a0_0 a0_1 l0_2) else (if a0_0 = 8 then (semigroupref04_shaped.j2 kj10 a1 (l0_2.length : Int) ((l0_2.length : Int) == 1) a0_0 a0_1 l0_2) else (if x6_2 = true then (semigroupref04_shaped.j2 kj10 a1 (l0_2.length : Int) (decide ((l0_2.length : Int) ≥ 2)) a0_0 a0_1 l0_2) else (semigroupref04_shaped.j2 kj10 a1 (l0_2.length : Int) false a0_0 a0_1 l0_2)))) = some r := by rw [if_neg (show ¬ (false = true) by decide)] at H; exact H
       clear H
       have H := H1
       clear H1
       by_cases c15 : a0_0 = 7
       ·rw [if_pos c15] at H
        have c15b0 : (a0_0 == 7) = true := beq_iff_eq.mpr c15
        have c15b1 : (a0_0 != 7) = false := bne_eq_false_iff_eq.mpr c15
        clear c15
        have H' := Aside0.mk H
        clear H
        go_wp2
        go_meet
        case rel => exact ⟨_, (((l0_2.length : Int) == 1)), (by first | rfl | (simp; done) | (simp [*]; done)), H', ⟨by have := HJ2.out; have := HJ10.out; first | omega | exact Nat.le_refl _⟩, ⟨bK⟩, ⟨bB⟩⟩
       ·rw [if_neg c15] at H
        have c15b0 : (a0_0 == 7) = false := beq_eq_false_iff_ne.mpr c15
        have c15b1 : (a0_0 != 7) = true := bne_iff_ne.mpr c15
        by_cases c16 : a0_0 = 8
        ·rw [if_pos c16] at H
         have c16b0 : (a0_0 == 8) = true := beq_iff_eq.mpr c16
         have c16b1 : (a0_0 != 8) = false := bne_eq_false_iff_eq.mpr c16
         clear c16
         have H' := Aside0.mk H
         clear H
         go_wp2
         go_meet
         case rel => exact ⟨_, (((l0_2.length : Int) == 1)), (by first | rfl | (simp; done) | (simp [*]; done)), H', ⟨by have := HJ2.out; have := HJ10.out; first | omega | exact Nat.le_refl _⟩, ⟨bK⟩, ⟨bB⟩⟩
        ·rw [if_neg c16] at H
         have c16b0 : (a0_0 == 8) = false := beq_eq_false_iff_ne.mpr c16
         have c16b1 : (a0_0 != 8) = true := bne_iff_ne.mpr c16
         by_cases c17 : x6_2 = true
         ·subst c17
          have H1 : (semigroupref04_shaped.j2 kj10 a1 (l0_2.length : Int) (decide ((l0_2.length : Int) ≥ 2)) a0_0 a0_1 l0_2) = some r := by rw [if_pos rfl] at H; exact H
          clear H
          have H := H1
          clear H1
          have H' := Aside0.mk H
          clear H
          go_wp2
          go_meet
          case rel => exact ⟨_, (decide ((l0_2.length : Int) ≥ 2)), (by first | rfl | (simp; done) | (simp [*]; done)), H', ⟨by have := HJ2.out; have := HJ10.out; first | omega | exact Nat.le_refl _⟩, ⟨bK⟩, ⟨bB⟩⟩
         ·replace c17 := Bool.eq_false_iff.mpr c17
          subst c17
          have H1 : (semigroupref04_shaped.j2 kj10 a1 (l0_2.length : Int) false a0_0 a0_1 l0_2) = some r := by rw [if_neg (show ¬ (false = true) by decide)] at H; exact H
          clear H
          have H := H1
          clear H1
          have H' := Aside0.mk H
          clear H
          go_wp2
          go_meet
          case rel => exact ⟨_, (false), (by first | rfl | (simp; done) | (simp [*]; done)), H', ⟨by have := HJ2.out; have := HJ10.out; first | omega | exact Nat.le_refl _⟩, ⟨bK⟩, ⟨bB⟩⟩
   case rest =>
    clear HC9
    try clear c1
    try clear p2
    try clear c4
    try clear c6
    try clear c6b0
    try clear c12
    try clear c12b0
    try clear c12b1
    try clear c13
    try clear c13b0
    try clear c13b1
    try clear c14
    try clear c15
    try clear c15b0
    try clear c15b1
    try clear c16
    try clear c16b0
    try clear c16b1
    try clear c17
    try clear hcz10_0
    try clear hcz10_1
    try clear hcz10_2
    try clear hcz5_0
    try clear hcz5_1
    try clear hcz5_2
    try clear hcz7_0
    try clear hcz7_1
    try clear hcz7_2
    try clear hcz8_0
    try clear hcz8_1
    try clear hcz8_2
    try clear hfz10_0
    try clear hfz10_1
    try clear hfz10_2
    try clear hfz5_0
    try clear hfz5_1
    try clear hfz5_2
    try clear hfz7_0
    try clear hfz7_1
    try clear hfz7_2
    try clear hfz8_0
    try clear hfz8_1
    try clear hfz8_2
    try clear p2
    obtain ⟨kq, x6_8, rfl, HA, HJ8, BK115, HB⟩ := hcut
    cases kq with
    | zero => exact absurd HA.out (by simp [semigroupref04_shaped.j2])
    | succ kj8 =>
     have H := HA.out
     clear HA
     simp only [semigroupref04_shaped.j2] at H
     have HC18 := Aside0.mk H
     clear H
     have hcz19_0 : wc.cell? ⟨gb115, 0, none⟩ = some (.int .i64 a0_0) := (blk_cell BK115.out 0).trans rfl
     have hcz19_1 : wc.cell? ⟨gb115, 1, none⟩ = some (.int .i64 a0_1) := (blk_cell BK115.out 1).trans rfl
     have hcz19_2 : wc.cell? ⟨gb115, 2, none⟩ = some (.slice A0_2 l0_2.length c0_2) := (blk_cell BK115.out 2).trans rfl
     have hfz19_0 := blk_frozen BK115.out 0
     have hfz19_1 := blk_frozen BK115.out 1
     have hfz19_2 := blk_frozen BK115.out 2
     go_upto_if 39 with (fail)
     go_cut [6] (fun v6 wc => ∃ (kq : Nat) (x6_17 : Bool), v6 = .bool x6_17 ∧ Aside0 (semigroupref04_shaped.j3 kq a1 (l0_2.length : Int) x6_17 a0_0 a0_1 l0_2 = some r) ∧ Aside0 (kq ≤ kj8) ∧ Aside0 (wc.heap[gb115]? = some (.cells #[.int .i64 a0_0, .int .i64 a0_1, (.slice A0_2 l0_2.length c0_2)] 24 (0, 0))) ∧ Aside0 (Below w.heap.size w wc))
     case first =>
      have H := HC18.out
      clear HC18
      by_cases c20 : a0_0 = 3
      ·rw [if_pos c20] at H
       have c20b0 : (a0_0 == 3) = true := beq_iff_eq.mpr c20
       have c20b1 : (a0_0 != 3) = false := bne_eq_false_iff_eq.mpr c20
       clear c20
       (first | rw [c20b0] | (simp only [i64_w, i32_w]; rw [c20b0]) | skip)
       by_cases c21 : x6_8 = true
       ·subst c21
        have H1 : (if a0_1 ≥ 0 then (semigroupref04_shaped.j3 kj8 a1 (l0_2.length : Int) (decide (a0_1 < a1)) a0_0 a0_1 l0_2) else (semigroupref04_shaped.j3 kj8 a1 (l0_2.length : Int) false a0_0 a0_1 l0_2)) = some r := by rw [if_pos rfl] at H; exact H
        clear H
        have H := H1
        clear H1
        by_cases c22 : a0_1 ≥ 0
        ·rw [if_pos c22] at H
         have c22b0 : decide (0 ≤ a0_1) = true := decide_eq_true c22
         clear c22
         have H' := Aside0.mk H
         clear H
         have hcz23_0 : wc.cell? ⟨gb115, 0, none⟩ = some (.int .i64 a0_0) := (blk_cell BK115.out 0).trans rfl
         have hcz23_1 : wc.cell? ⟨gb115, 1, none⟩ = some (.int .i64 a0_1) := (blk_cell BK115.out 1).trans rfl
         have hcz23_2 : wc.cell? ⟨gb115, 2, none⟩ = some (.slice A0_2 l0_2.length c0_2) := (blk_cell BK115.out 2).trans rfl
         have hfz23_0 := blk_frozen BK115.out 0
         have hfz23_1 := blk_frozen BK115.out 1
         have hfz23_2 := blk_frozen BK115.out 2
         go_wp2
         go_meet
         case rel => exact ⟨_, (decide (a0_1 < a1)), (by first | rfl | (simp; done) | (simp [*]; done)), H', ⟨by have := HJ2.out; have := HJ8.out; first | omega | exact Nat.le_refl _⟩, ⟨bK⟩, ⟨bB⟩⟩
        ·rw [if_neg c22] at H
         have c22b0 : decide (0 ≤ a0_1) = false := decide_eq_false c22
         clear c22
         have H' := Aside0.mk H
         clear H
         have hcz24_0 : wc.cell? ⟨gb115, 0, none⟩ = some (.int .i64 a0_0) := (blk_cell BK115.out 0).trans rfl
         have hcz24_1 : wc.cell? ⟨gb115, 1, none⟩ = some (.int .i64 a0_1) := (blk_cell BK115.out 1).trans rfl
         have hcz24_2 : wc.cell? ⟨gb115, 2, none⟩ = some (.slice A0_2 l0_2.length c0_2) := (blk_cell BK115.out 2).trans rfl
         have hfz24_0 := blk_frozen BK115.out 0
         have hfz24_1 := blk_frozen BK115.out 1
         have hfz24_2 := blk_frozen BK115.out 2
         go_wp2
         go_meet
         case rel => exact ⟨_, (false), (by first | rfl | (simp; done) | (simp [*]; done)), H', ⟨by have := HJ2.out; have := HJ8.out; first | omega | exact Nat.le_refl _⟩, ⟨bK⟩, ⟨bB⟩⟩
       ·replace c21 := Bool.eq_false_iff.mpr c21
        subst c21
        have H1 : (semigroupref04_shaped.j3 kj8 a1 (l0_2.length : Int) false a0_0 a0_1 l0_2) = some r := by rw [if_neg (show ¬ (false = true) by decide)] at H; exact H
        clear H
        have H := H1
        clear H1
        have H' := Aside0.mk H
        clear H
        go_wp2
        go_meet
        case rel => exact ⟨_, (false), (by first | rfl | (simp; done) | (simp [*]; done)), H', ⟨by have := HJ2.out; have := HJ8.out; first | omega | exact Nat.le_refl _⟩, ⟨bK⟩, ⟨bB⟩⟩
      ·rw [if_neg c20] at H
       have c20b0 : (a0_0 == 3) = false := beq_eq_false_iff_ne.mpr c20
       have c20b1 : (a0_0 != 3) = true := bne_iff_ne.mpr c20
       (first | rw [c20b0] | (simp only [i64_w, i32_w]; rw [c20b0]) | skip)
       by_cases c25 : x6_8 = true
       ·subst c25
        have H1 : (semigroupref04_shaped.j3 kj8 a1 (l0_2.length : Int) (a0_1 == 0) a0_0 a0_1 l0_2) = some r := by rw [if_pos rfl] at H; exact H
        clear H
        have H := H1
        clear H1
        have H' := Aside0.mk H
        clear H
        have hcz26_0 : wc.cell? ⟨gb115, 0, none⟩ = some (.int .i64 a0_0) := (blk_cell BK115.out 0).trans rfl
        have hcz26_1 : wc.cell? ⟨gb115, 1, none⟩ = some (.int .i64 a0_1) := (blk_cell BK115.out 1).trans rfl
        have hcz26_2 : wc.cell? ⟨gb115, 2, none⟩ = some (.slice A0_2 l0_2.length c0_2) := (blk_cell BK115.out 2).trans rfl
        have hfz26_0 := blk_frozen BK115.out 0
        have hfz26_1 := blk_frozen BK115.out 1
        have hfz26_2 := blk_frozen BK115.out 2
        go_wp2
        go_meet
        case rel => exact ⟨_, ((a0_1 == 0)), (by first | rfl | (simp; done) | (simp [*]; done)), H', ⟨by have := HJ2.out; have := HJ8.out; first | omega | exact Nat.le_refl _⟩, ⟨bK⟩, ⟨bB⟩⟩
       ·replace c25 := Bool.eq_false_iff.mpr c25
        subst c25
        have H1 : (semigroupref04_shaped.j3 kj8 a1 (l0_2.length : Int) false a0_0 a0_1 l0_2) = some r := by rw [if_neg (show ¬ (false = true) by decide)] at H; exact H
        clear H
        have H := H1
        clear H1
        have H' := Aside0.mk H
        clear H
        go_wp2
        go_meet
        case rel => exact ⟨_, (false), (by first | rfl | (simp; done) | (simp [*]; done)), H', ⟨by have := HJ2.out; have := HJ8.out; first | omega | exact Nat.le_refl _⟩, ⟨bK⟩, ⟨bB⟩⟩
     case rest =>
      clear HC18
      try clear c1
      try clear c2
      try clear p2
      try clear c4
      try clear c6
      try clear c6b0
      try clear c12
      try clear c12b0
      try clear c12b1
      try clear c13
      try clear c13b0
      try clear c13b1
      try clear c14
      try clear c15
      try clear c15b0
      try clear c15b1
      try clear c16
      try clear c16b0
      try clear c16b1
      try clear c17
      try clear c20
      try clear c20b0
      try clear c20b1
      try clear c21
      try clear c22
      try clear c22b0
      try clear c25
      try clear hcz10_0
      try clear hcz10_1
      try clear hcz10_2
      try clear hcz19_0
      try clear hcz19_1
      try clear hcz19_2
      try clear hcz23_0
      try clear hcz23_1
      try clear hcz23_2
      try clear hcz24_0
      try clear hcz24_1
      try clear hcz24_2
      try clear hcz26_0
      try clear hcz26_1
      try clear hcz26_2
      try clear hcz5_0
      try clear hcz5_1
      try clear hcz5_2
      try clear hcz7_0
      try clear hcz7_1
      try clear hcz7_2
      try clear hcz8_0
      try clear hcz8_1
      try clear hcz8_2
      try clear hfz10_0
      try clear hfz10_1
      try clear hfz10_2
      try clear hfz19_0
      try clear hfz19_1
      try clear hfz19_2
      try clear hfz23_0
      try clear hfz23_1
      try clear hfz23_2
      try clear hfz24_0
      try clear hfz24_1
      try clear hfz24_2
      try clear hfz26_0
      try clear hfz26_1
      try clear hfz26_2
      try clear hfz5_0
      try clear hfz5_1
      try clear hfz5_2
      try clear hfz7_0
      try clear hfz7_1
      try clear hfz7_2
      try clear hfz8_0
      try clear hfz8_1
      try clear hfz8_2
      try clear p2
      obtain ⟨kq, x6_17, rfl, HA, HJ17, BK115, HB⟩ := hcut
      cases kq with
      | zero => exact absurd HA.out (by simp [semigroupref04_shaped.j3])
      | succ kj17 =>
       have H := HA.out
       clear HA
       simp only [semigroupref04_shaped.j3] at H
       have H' := Aside0.mk H
       clear H
       go_wp2
       go_loopg [6, 7] kj17 (fun kq v6 v7 w' => ∃ (x6_4 : Bool) (x7_4 : Int), v6 = .bool x6_4 ∧ v7 = .int .i64 x7_4 ∧ Aside0 (semigroupref04_shaped.l0 kq a1 (l0_2.length : Int) x6_4 x7_4 a0_0 a0_1 l0_2 = some r) ∧ Aside0 (kq ≤ kj17) ∧ Aside0 (w'.heap[gb115]? = some (.cells #[.int .i64 a0_0, .int .i64 a0_1, (.slice A0_2 l0_2.length c0_2)] 24 (0, 0))) ∧ Aside0 (Below w.heap.size w w'))
       case atStart => exact ⟨(x6_17), (0), (by first | rfl | (simp; done) | (simp [*]; done)), (by first | rfl | (simp; done) | (simp [*]; done)), H', ⟨Nat.le_refl _⟩, ⟨bK⟩, ⟨bB⟩⟩
       case round =>
        clear H'
        try clear c1
        try clear c2
        try clear p2
        try clear c4
        try clear c6
        try clear c6b0
        try clear c12
        try clear c12b0
        try clear c12b1
        try clear c13
        try clear c13b0
        try clear c13b1
        try clear c14
        try clear c15
        try clear c15b0
        try clear c15b1
        try clear c16
        try clear c16b0
        try clear c16b1
        try clear c17
        try clear c20
        try clear c20b0
        try clear c20b1
        try clear c21
        try clear c22
        try clear c22b0
        try clear c25
        try clear hcz10_0
        try clear hcz10_1
        try clear hcz10_2
        try clear hcz19_0
        try clear hcz19_1
        try clear hcz19_2
        try clear hcz23_0
        try clear hcz23_1
        try clear hcz23_2
        try clear hcz24_0
        try clear hcz24_1
        try clear hcz24_2
        try clear hcz26_0
        try clear hcz26_1
        try clear hcz26_2
        try clear hcz5_0
        try clear hcz5_1
        try clear hcz5_2
        try clear hcz7_0
        try clear hcz7_1
        try clear hcz7_2
        try clear hcz8_0
        try clear hcz8_1
        try clear hcz8_2
        try clear hfz10_0
        try clear hfz10_1
        try clear hfz10_2
        try clear hfz19_0
        try clear hfz19_1
        try clear hfz19_2
        try clear hfz23_0
        try clear hfz23_1
        try clear hfz23_2
        try clear hfz24_0
        try clear hfz24_1
        try clear hfz24_2
        try clear hfz26_0
        try clear hfz26_1
        try clear hfz26_2
        try clear hfz5_0
        try clear hfz5_1
        try clear hfz5_2
        try clear hfz7_0
        try clear hfz7_1
        try clear hfz7_2
        try clear hfz8_0
        try clear hfz8_1
        try clear hfz8_2
        try clear p2
        obtain ⟨x6_4, x7_4, rfl, rfl, HA, HK4, BK115, HB⟩ := hrel
        cases gk with
        | zero => exact absurd HA.out (by simp [semigroupref04_shaped.l0])
        | succ k4 =>
         have H := HA.out
         clear HA
         simp only [semigroupref04_shaped.l0] at H
         by_cases c27 : x7_4 < (l0_2.length : Int)
         ·rw [if_pos c27] at H
          have c27b0 : decide (x7_4 < (l0_2.length : Int)) = true := decide_eq_true c27
          clear c27
          by_cases c28 : x6_4 = true
          ·subst c28
           have H1 : (if 0 ≤ x7_4 then (if x7_4 < (l0_2.length : Int) then ((semigroupref04_shaped.f k4 ((rd_T24 l0_2 x7_4).f0) ((rd_T24 l0_2 x7_4).f1) ((rd_T24 l0_2 x7_4).f2) a1).bind fun t117 => (semigroupref04_shaped.l0 k4 a1 (l0_2.length : Int) t117 (wrap64 (x7_4 + 1)) a0_0 a0_1 l0_2)) else (none)) else (none)) = some r := by rw [if_pos rfl] at H; exact H
           clear H
           have H := H1
           clear H1
           by_cases c29 : 0 ≤ x7_4
           ·rw [if_pos c29] at H
            have c29b0 : decide (0 ≤ x7_4) = true := decide_eq_true c29
            clear c29
            by_cases c30 : x7_4 < (l0_2.length : Int)
            ·rw [if_pos c30] at H
             have c30b0 : decide (x7_4 < (l0_2.length : Int)) = true := decide_eq_true c30
             clear c30
             replace H := Option.bind_eq_some_iff.mp H
             obtain ⟨t117, A310, H⟩ := H
             replace H : (semigroupref04_shaped.l0 k4 a1 (l0_2.length : Int) t117 (wrap64 (x7_4 + 1)) a0_0 a0_1 l0_2) = some r := H
             have A31 := Aside0.mk A310
             clear A310
             have H' := Aside0.mk H
             clear H
             have hcz32_0 : wr.cell? ⟨gb115, 0, none⟩ = some (.int .i64 a0_0) := (blk_cell BK115.out 0).trans rfl
             have hcz32_1 : wr.cell? ⟨gb115, 1, none⟩ = some (.int .i64 a0_1) := (blk_cell BK115.out 1).trans rfl
             have hcz32_2 : wr.cell? ⟨gb115, 2, none⟩ = some (.slice A0_2 l0_2.length c0_2) := (blk_cell BK115.out 2).trans rfl
             have hfz32_0 := blk_frozen BK115.out 0
             have hfz32_1 := blk_frozen BK115.out 1
             have hfz32_2 := blk_frozen BK115.out 2
             have p116 : 0 ≤ (x7_4 : Int) := of_decide_eq_true (by first | (with_reducible assumption) | assumption)
             have q116 : x7_4 < (l0_2.length : Int) := of_decide_eq_true (by first | (with_reducible assumption) | assumption)
             obtain ⟨ad116, A116_2, c116_2, e116, hx116_0, hx116_1, hx116_2, hl116_2, hi116_2⟩ := at_T24 HR0_2.out x7_4 p116 q116
             cases e116
             replace hx116_0 := (HB.out.cell (World.block_lt_of_cell? w _ hx116_0)).trans hx116_0
             replace hx116_1 := (HB.out.cell (World.block_lt_of_cell? w _ hx116_1)).trans hx116_1
             replace hx116_2 := (HB.out.cell (World.block_lt_of_cell? w _ hx116_2)).trans hx116_2
             have HR116_2 := Aside0.mk hi116_2
             have HC116_2 := Aside0.mk hl116_2
             clear hi116_2 hl116_2
             replace p116 := eq_true p116
             replace q116 := eq_true q116
             go_wp2_with (first | ((with_reducible refine gate_callee (f := 45) rfl ?_); refine goesL_ (some 72) rfl rfl Try.func45 (by kernel_rfl) rfl #[.agg #[.int .i64 ((rd_T24 l0_2 x7_4).f0), .int .i64 ((rd_T24 l0_2 x7_4).f1), .slice A116_2 ((rd_T24 l0_2 x7_4).f2).length c116_2], .int .i64 a1] rfl (by (try simp only [List.map_toArray, List.map_cons, List.map_nil]); first | done | rfl | (simp only [List.length_drop, List.length_take]; rfl) | (simp only [Int.ofNat_lt, Int.ofNat_le]; rfl)) ?_; (with_reducible refine (ih k4 (by have := HJ2.out; have := HJ8.out; have := HJ17.out; have := HK4.out; omega) ((rd_T24 l0_2 x7_4).f0) ((rd_T24 l0_2 x7_4).f1) _ _ ((rd_T24 l0_2 x7_4).f2) a1 t117 _ ?side1 ?side2 A31.out).mono ?_); (case side1 => repeat (first | exact (Kd.C_below HR116_2.out HB.out) | (with_reducible refine Kd.C_alloc ?_ _) | (with_reducible refine Kd.C_drewN ?_ _) | (with_reducible refine Kd.C_drew ?_))); (case side2 => exact HC116_2.out); rintro e w33 ⟨rfl, hb⟩; refine ⟨_, rfl, ?_⟩; have n0_ := Aside0.mk (blk_below (g := gb115) (o := .cells #[.int .i64 a0_0, .int .i64 a0_1, .slice (some ad116) l0_2.length c0_2] 24 (0, 0)) (bK) hb); have n1_ := Aside0.mk (below_step (bB) hb); clear BK115; clear HB; have BK115 := n0_; have HB := n1_; clear n0_ n1_; (try clear hb); (try clear hb2); (try clear hk); (try clear hi)))
             (first | go_roundg k4 | ((simp only [add_plain] at *); go_roundg k4))
             case measure => have := HJ2.out; have := HJ8.out; have := HJ17.out; have := HK4.out; omega
             case rel => exact ⟨(t117), (wrap64 (x7_4 + 1)), (by first | rfl | (simp; done) | (simp [*]; done)), (by first | rfl | (simp; done) | (simp [*]; done)), H', ⟨by have := HJ2.out; have := HJ8.out; have := HJ17.out; have := HK4.out; omega⟩, ⟨bK⟩, ⟨bB⟩⟩
            ·rw [if_neg c30] at H
             exact absurd H (by simp)
           ·rw [if_neg c29] at H
            exact absurd H (by simp)
          ·replace c28 := Bool.eq_false_iff.mpr c28
           subst c28
           have H1 : (some false) = some r := by rw [if_neg (show ¬ (false = true) by decide)] at H; exact H
           clear H
           have H := H1
           clear H1
           obtain rfl := Option.some.inj H
           go_wp2
           go_ret
           exact ⟨by first | rfl | (simp [errW_none, errW_some] <;> rfl) | (simp [*, errW_none, errW_some] <;> rfl), bB⟩
         ·rw [if_neg c27] at H
          have c27b0 : decide (x7_4 < (l0_2.length : Int)) = false := decide_eq_false c27
          clear c27
          obtain rfl := Option.some.inj H
          go_wp2
          go_ret
          exact ⟨by first | rfl | (simp [errW_none, errW_some] <;> rfl) | (simp [*, errW_none, errW_some] <;> rfl), bB⟩
end Go.Proofs.Ytjofkebiacaciaa.PAll
end
section
namespace Go.Proofs.Ytjofkebiacaciaa.PAll
open Go.RowKit Go.Proofs.YtjofkebiacaciaaW.PrintWords Go.Proofs.YtjofkebiacaciaaW.PrintLast Go.Proofs.YtjofkebiacaciaaW.PrintMore
attribute [local go_sem] max2_int min2_int max_two min_two max_three min_three max_four min_four
set_option linter.unusedVariables false
set_option linter.unusedSimpArgs false
def semigroupref04_Validate.f (k : Nat) (a0_0 : Int) (a0_1 : Int) (l0_2 : List (S24)) (a1 : Int) : Option (Int) := (semigroupref01_MayLetters.f a1).bind fun t119 => (if t119 = true then ((semigroupref04_Within.f k a0_0 a0_1 l0_2).bind fun t120 => (if t120 = true then ((semigroupref04_shaped.f k a0_0 a0_1 l0_2 a1).bind fun t121 => (if t121 = true then (some 0) else (some 4))) else (some 3))) else (some 1))
theorem semigroupref04_Validate.mono : ∀ a0 a1 a2 a3 k, LeO (semigroupref04_Validate.f k a0 a1 a2 a3) (semigroupref04_Validate.f (k + 1) a0 a1 a2 a3) := by
 intro a0 a1 a2 a3 k
 unfold semigroupref04_Validate.f
 repeat' first
   | (with_reducible exact semigroupref04_Within.mono _ _ _ _)
   | (with_reducible exact semigroupref04_shaped.mono _ _ _ _ _)
   | (with_reducible exact LeO.refl _)
   | (with_reducible exact LeO.none _)
   | (with_reducible refine LeO.ite ?_ ?_)
   | (with_reducible refine LeO.bind ?_ (fun _ => ?_))
   | exact semigroupref04_Within.mono _ _ _ _
   | exact semigroupref04_shaped.mono _ _ _ _ _
   | exact LeO.none _
   | refine LeO.ite ?_ ?_
   | refine LeO.bind ?_ (fun _ => ?_)
set_option maxHeartbeats 8000000 in
set_option maxRecDepth 100000 in
theorem semigroupref04_Validate.calls (k : Nat) (a0_0 : Int) (a0_1 : Int) (A0_2 : Option Addr) (c0_2 : Nat) (l0_2 : List (S24)) (a1 : Int) (r : Int) (w : World) (hr0_2 : Kd.C k24 w A0_2 l0_2.length l0_2) (hc0_2 : l0_2.length ≤ c0_2) (h : semigroupref04_Validate.f k a0_0 a0_1 l0_2 a1 = some r) :
  Calls Try.prog 16 #[.agg #[.int .i64 a0_0, .int .i64 a0_1, .slice A0_2 l0_2.length c0_2], .int .i64 a1] w fun e w' => e = .returned (.int .i64 r) ∧ Below w.heap.size w w' := by
 have hu24 := Try.underlying24
 have HR0_2 := Aside0.mk hr0_2
 have HC0_2 := Aside0.mk hc0_2
 clear hr0_2 hc0_2
 have HB := Aside0.mk (Below.refl w.heap.size w)
 have H : ((semigroupref01_MayLetters.f a1).bind fun t119 => (if t119 = true then ((semigroupref04_Within.f k a0_0 a0_1 l0_2).bind fun t120 => (if t120 = true then ((semigroupref04_shaped.f k a0_0 a0_1 l0_2 a1).bind fun t121 => (if t121 = true then (some 0) else (some 4))) else (some 3))) else (some 1))) = some r := h
 clear h
 replace H := Option.bind_eq_some_iff.mp H
 obtain ⟨t119, A30, H⟩ := H
 replace H : (if t119 = true then ((semigroupref04_Within.f k a0_0 a0_1 l0_2).bind fun t120 => (if t120 = true then ((semigroupref04_shaped.f k a0_0 a0_1 l0_2 a1).bind fun t121 => (if t121 = true then (some 0) else (some 4))) else (some 3))) else (some 1)) = some r := H
 have A3 := Aside0.mk A30
 clear A30
 by_cases c4 : t119 = true
 ·subst c4
  have H1 : ((semigroupref04_Within.f k a0_0 a0_1 l0_2).bind fun t120 => (if t120 = true then ((semigroupref04_shaped.f k a0_0 a0_1 l0_2 a1).bind fun t121 => (if t121 = true then (some 0) else (some 4))) else (some 3))) = some r := by rw [if_pos rfl] at H; exact H
  clear H
  have H := H1
  clear H1
  replace H := Option.bind_eq_some_iff.mp H
  obtain ⟨t120, A50, H⟩ := H
  replace H : (if t120 = true then ((semigroupref04_shaped.f k a0_0 a0_1 l0_2 a1).bind fun t121 => (if t121 = true then (some 0) else (some 4))) else (some 3)) = some r := H
  have A5 := Aside0.mk A50
  clear A50
  by_cases c6 : t120 = true
  ·subst c6
   have H1 : ((semigroupref04_shaped.f k a0_0 a0_1 l0_2 a1).bind fun t121 => (if t121 = true then (some 0) else (some 4))) = some r := by rw [if_pos rfl] at H; exact H
   clear H
   have H := H1
   clear H1
   replace H := Option.bind_eq_some_iff.mp H
   obtain ⟨t121, A70, H⟩ := H
   replace H : (if t121 = true then (some 0) else (some 4)) = some r := H
   have A7 := Aside0.mk A70
   clear A70
   by_cases c8 : t121 = true
   ·subst c8
    have H1 : (some 0) = some r := by rw [if_pos rfl] at H; exact H
    clear H
    have H := H1
    clear H1
    obtain rfl := Option.some.inj H
    go_enter Try.func16, Try.ntmps16
    go_wp2_with (first | ((with_reducible refine gate_dst (N := 2) rfl ?_); refine box_event ?hg (N := 2) ?hd (cs := #[.int .i64 a0_0, .int .i64 a0_1, .slice A0_2 l0_2.length c0_2]) (t := 24) ?hr ?_; (case hd => rfl); (case hg => rfl); (case hr => first | (go_simp; done) | (go_simp; rfl)); intro gb118 hg w9 hbox hb; have n0_ := Aside0.mk (below_step (bB) hb); have n1_ := Aside0.mk (hbox); have n2_ := Aside0.mk ((by rw [hg]; exact (below_size (bB)) : w.heap.size ≤ gb118)); have n3_ := Aside0.mk ((by rw [hg]; exact (below_size (bB)) : w.heap.size ≤ gb118)); clear HB; have HB := n0_; have BK118 := n1_; have GW118 := n2_; have GE118 := n3_; clear n0_ n1_ n2_ n3_; clear hb hbox hg) | ((with_reducible refine gate_callee (f := 43) rfl ?_); refine goesL_ (some 7) rfl rfl Try.func43 (by kernel_rfl) rfl #[.int .i64 a1] rfl (by (try simp only [List.map_toArray, List.map_cons, List.map_nil]); first | done | rfl | (simp only [List.length_drop, List.length_take]; rfl) | (simp only [Int.ofNat_lt, Int.ofNat_le]; rfl)) ?_; (with_reducible refine (semigroupref01_MayLetters.calls a1 true _ A3.out).mono ?_); rintro e w' ⟨rfl, ⟨nd, rfl⟩⟩; refine ⟨_, rfl, ?_⟩; have hcz10_0 : w9.cell? ⟨gb118, 0, none⟩ = some (.int .i64 a0_0) := (blk_cell BK118.out 0).trans rfl; have hcz10_1 : w9.cell? ⟨gb118, 1, none⟩ = some (.int .i64 a0_1) := (blk_cell BK118.out 1).trans rfl; have hcz10_2 : w9.cell? ⟨gb118, 2, none⟩ = some (.slice A0_2 l0_2.length c0_2) := (blk_cell BK118.out 2).trans rfl; have hfz10_0 := blk_frozen BK118.out 0; have hfz10_1 := blk_frozen BK118.out 1; have hfz10_2 := blk_frozen BK118.out 2) | ((with_reducible refine gate_callee (f := 44) rfl ?_); refine goesL_ (some 11) rfl rfl Try.func44 (by kernel_rfl) rfl #[.agg #[.int .i64 a0_0, .int .i64 a0_1, .slice A0_2 l0_2.length c0_2]] rfl (by (try simp only [List.map_toArray, List.map_cons, List.map_nil]); first | done | rfl | (simp only [List.length_drop, List.length_take]; rfl) | (simp only [Int.ofNat_lt, Int.ofNat_le]; rfl)) ?_; (with_reducible refine (semigroupref04_Within.calls k a0_0 a0_1 _ _ l0_2 true _ ?side1 ?side2 A5.out).mono ?_); (case side1 => repeat (first | exact (Kd.C_below HR0_2.out (bB)) | (with_reducible refine Kd.C_alloc ?_ _) | (with_reducible refine Kd.C_drewN ?_ _) | (with_reducible refine Kd.C_drew ?_))); (case side2 => exact HC0_2.out); rintro e w11 ⟨rfl, hb⟩; refine ⟨_, rfl, ?_⟩; have n0_ := Aside0.mk (blk_below (g := gb118) (o := .cells #[.int .i64 a0_0, .int .i64 a0_1, .slice A0_2 l0_2.length c0_2] 24 (0, 0)) (bK) hb); have n1_ := Aside0.mk (below_step (bB) hb); clear BK118; clear HB; have BK118 := n0_; have HB := n1_; clear n0_ n1_; (try clear hb); (try clear hb2); (try clear hk); (try clear hi); have hcz12_0 : w11.cell? ⟨gb118, 0, none⟩ = some (.int .i64 a0_0) := (blk_cell BK118.out 0).trans rfl; have hcz12_1 : w11.cell? ⟨gb118, 1, none⟩ = some (.int .i64 a0_1) := (blk_cell BK118.out 1).trans rfl; have hcz12_2 : w11.cell? ⟨gb118, 2, none⟩ = some (.slice A0_2 l0_2.length c0_2) := (blk_cell BK118.out 2).trans rfl; have hfz12_0 := blk_frozen BK118.out 0; have hfz12_1 := blk_frozen BK118.out 1; have hfz12_2 := blk_frozen BK118.out 2) | ((with_reducible refine gate_callee (f := 45) rfl ?_); refine goesL_ (some 16) rfl rfl Try.func45 (by kernel_rfl) rfl #[.agg #[.int .i64 a0_0, .int .i64 a0_1, .slice A0_2 l0_2.length c0_2], .int .i64 a1] rfl (by (try simp only [List.map_toArray, List.map_cons, List.map_nil]); first | done | rfl | (simp only [List.length_drop, List.length_take]; rfl) | (simp only [Int.ofNat_lt, Int.ofNat_le]; rfl)) ?_; (with_reducible refine (semigroupref04_shaped.calls k a0_0 a0_1 _ _ l0_2 a1 true _ ?side1 ?side2 A7.out).mono ?_); (case side1 => repeat (first | exact (Kd.C_below HR0_2.out HB.out) | (with_reducible refine Kd.C_alloc ?_ _) | (with_reducible refine Kd.C_drewN ?_ _) | (with_reducible refine Kd.C_drew ?_))); (case side2 => exact HC0_2.out); rintro e w13 ⟨rfl, hb⟩; refine ⟨_, rfl, ?_⟩; have n0_ := Aside0.mk (blk_below (g := gb118) (o := .cells #[.int .i64 a0_0, .int .i64 a0_1, .slice A0_2 l0_2.length c0_2] 24 (0, 0)) (bK) hb); have n1_ := Aside0.mk (below_step (bB) hb); clear BK118; clear HB; have BK118 := n0_; have HB := n1_; clear n0_ n1_; (try clear hb); (try clear hb2); (try clear hk); (try clear hi)))
    go_ret
    exact ⟨by first | rfl | (simp [errW_none, errW_some] <;> rfl) | (simp [*, errW_none, errW_some] <;> rfl), bB⟩
   ·replace c8 := Bool.eq_false_iff.mpr c8
    subst c8
    have H1 : (some 4) = some r := by rw [if_neg (show ¬ (false = true) by decide)] at H; exact H
    clear H
    have H := H1
    clear H1
    obtain rfl := Option.some.inj H
    go_enter Try.func16, Try.ntmps16
    go_wp2_with (first | ((with_reducible refine gate_dst (N := 2) rfl ?_); refine box_event ?hg (N := 2) ?hd (cs := #[.int .i64 a0_0, .int .i64 a0_1, .slice A0_2 l0_2.length c0_2]) (t := 24) ?hr ?_; (case hd => rfl); (case hg => rfl); (case hr => first | (go_simp; done) | (go_simp; rfl)); intro gb118 hg w14 hbox hb; have n0_ := Aside0.mk (below_step (bB) hb); have n1_ := Aside0.mk (hbox); have n2_ := Aside0.mk ((by rw [hg]; exact (below_size (bB)) : w.heap.size ≤ gb118)); have n3_ := Aside0.mk ((by rw [hg]; exact (below_size (bB)) : w.heap.size ≤ gb118)); clear HB; have HB := n0_; have BK118 := n1_; have GW118 := n2_; have GE118 := n3_; clear n0_ n1_ n2_ n3_; clear hb hbox hg) | ((with_reducible refine gate_callee (f := 43) rfl ?_); refine goesL_ (some 7) rfl rfl Try.func43 (by kernel_rfl) rfl #[.int .i64 a1] rfl (by (try simp only [List.map_toArray, List.map_cons, List.map_nil]); first | done | rfl | (simp only [List.length_drop, List.length_take]; rfl) | (simp only [Int.ofNat_lt, Int.ofNat_le]; rfl)) ?_; (with_reducible refine (semigroupref01_MayLetters.calls a1 true _ A3.out).mono ?_); rintro e w' ⟨rfl, ⟨nd, rfl⟩⟩; refine ⟨_, rfl, ?_⟩; have hcz15_0 : w14.cell? ⟨gb118, 0, none⟩ = some (.int .i64 a0_0) := (blk_cell BK118.out 0).trans rfl; have hcz15_1 : w14.cell? ⟨gb118, 1, none⟩ = some (.int .i64 a0_1) := (blk_cell BK118.out 1).trans rfl; have hcz15_2 : w14.cell? ⟨gb118, 2, none⟩ = some (.slice A0_2 l0_2.length c0_2) := (blk_cell BK118.out 2).trans rfl; have hfz15_0 := blk_frozen BK118.out 0; have hfz15_1 := blk_frozen BK118.out 1; have hfz15_2 := blk_frozen BK118.out 2) | ((with_reducible refine gate_callee (f := 44) rfl ?_); refine goesL_ (some 11) rfl rfl Try.func44 (by kernel_rfl) rfl #[.agg #[.int .i64 a0_0, .int .i64 a0_1, .slice A0_2 l0_2.length c0_2]] rfl (by (try simp only [List.map_toArray, List.map_cons, List.map_nil]); first | done | rfl | (simp only [List.length_drop, List.length_take]; rfl) | (simp only [Int.ofNat_lt, Int.ofNat_le]; rfl)) ?_; (with_reducible refine (semigroupref04_Within.calls k a0_0 a0_1 _ _ l0_2 true _ ?side1 ?side2 A5.out).mono ?_); (case side1 => repeat (first | exact (Kd.C_below HR0_2.out (bB)) | (with_reducible refine Kd.C_alloc ?_ _) | (with_reducible refine Kd.C_drewN ?_ _) | (with_reducible refine Kd.C_drew ?_))); (case side2 => exact HC0_2.out); rintro e w16 ⟨rfl, hb⟩; refine ⟨_, rfl, ?_⟩; have n0_ := Aside0.mk (blk_below (g := gb118) (o := .cells #[.int .i64 a0_0, .int .i64 a0_1, .slice A0_2 l0_2.length c0_2] 24 (0, 0)) (bK) hb); have n1_ := Aside0.mk (below_step (bB) hb); clear BK118; clear HB; have BK118 := n0_; have HB := n1_; clear n0_ n1_; (try clear hb); (try clear hb2); (try clear hk); (try clear hi); have hcz17_0 : w16.cell? ⟨gb118, 0, none⟩ = some (.int .i64 a0_0) := (blk_cell BK118.out 0).trans rfl; have hcz17_1 : w16.cell? ⟨gb118, 1, none⟩ = some (.int .i64 a0_1) := (blk_cell BK118.out 1).trans rfl; have hcz17_2 : w16.cell? ⟨gb118, 2, none⟩ = some (.slice A0_2 l0_2.length c0_2) := (blk_cell BK118.out 2).trans rfl; have hfz17_0 := blk_frozen BK118.out 0; have hfz17_1 := blk_frozen BK118.out 1; have hfz17_2 := blk_frozen BK118.out 2) | ((with_reducible refine gate_callee (f := 45) rfl ?_); refine goesL_ (some 16) rfl rfl Try.func45 (by kernel_rfl) rfl #[.agg #[.int .i64 a0_0, .int .i64 a0_1, .slice A0_2 l0_2.length c0_2], .int .i64 a1] rfl (by (try simp only [List.map_toArray, List.map_cons, List.map_nil]); first | done | rfl | (simp only [List.length_drop, List.length_take]; rfl) | (simp only [Int.ofNat_lt, Int.ofNat_le]; rfl)) ?_; (with_reducible refine (semigroupref04_shaped.calls k a0_0 a0_1 _ _ l0_2 a1 false _ ?side1 ?side2 A7.out).mono ?_); (case side1 => repeat (first | exact (Kd.C_below HR0_2.out HB.out) | (with_reducible refine Kd.C_alloc ?_ _) | (with_reducible refine Kd.C_drewN ?_ _) | (with_reducible refine Kd.C_drew ?_))); (case side2 => exact HC0_2.out); rintro e w18 ⟨rfl, hb⟩; refine ⟨_, rfl, ?_⟩; have n0_ := Aside0.mk (blk_below (g := gb118) (o := .cells #[.int .i64 a0_0, .int .i64 a0_1, .slice A0_2 l0_2.length c0_2] 24 (0, 0)) (bK) hb); have n1_ := Aside0.mk (below_step (bB) hb); clear BK118; clear HB; have BK118 := n0_; have HB := n1_; clear n0_ n1_; (try clear hb); (try clear hb2); (try clear hk); (try clear hi)))
    go_ret
    exact ⟨by first | rfl | (simp [errW_none, errW_some] <;> rfl) | (simp [*, errW_none, errW_some] <;> rfl), bB⟩
  ·replace c6 := Bool.eq_false_iff.mpr c6
   subst c6
   have H1 : (some 3) = some r := by rw [if_neg (show ¬ (false = true) by decide)] at H; exact H
   clear H
   have H := H1
   clear H1
   obtain rfl := Option.some.inj H
   go_enter Try.func16, Try.ntmps16
   go_wp2_with (first | ((with_reducible refine gate_dst (N := 2) rfl ?_); refine box_event ?hg (N := 2) ?hd (cs := #[.int .i64 a0_0, .int .i64 a0_1, .slice A0_2 l0_2.length c0_2]) (t := 24) ?hr ?_; (case hd => rfl); (case hg => rfl); (case hr => first | (go_simp; done) | (go_simp; rfl)); intro gb118 hg w19 hbox hb; have n0_ := Aside0.mk (below_step (bB) hb); have n1_ := Aside0.mk (hbox); have n2_ := Aside0.mk ((by rw [hg]; exact (below_size (bB)) : w.heap.size ≤ gb118)); have n3_ := Aside0.mk ((by rw [hg]; exact (below_size (bB)) : w.heap.size ≤ gb118)); clear HB; have HB := n0_; have BK118 := n1_; have GW118 := n2_; have GE118 := n3_; clear n0_ n1_ n2_ n3_; clear hb hbox hg) | ((with_reducible refine gate_callee (f := 43) rfl ?_); refine goesL_ (some 7) rfl rfl Try.func43 (by kernel_rfl) rfl #[.int .i64 a1] rfl (by (try simp only [List.map_toArray, List.map_cons, List.map_nil]); first | done | rfl | (simp only [List.length_drop, List.length_take]; rfl) | (simp only [Int.ofNat_lt, Int.ofNat_le]; rfl)) ?_; (with_reducible refine (semigroupref01_MayLetters.calls a1 true _ A3.out).mono ?_); rintro e w' ⟨rfl, ⟨nd, rfl⟩⟩; refine ⟨_, rfl, ?_⟩; have hcz20_0 : w19.cell? ⟨gb118, 0, none⟩ = some (.int .i64 a0_0) := (blk_cell BK118.out 0).trans rfl; have hcz20_1 : w19.cell? ⟨gb118, 1, none⟩ = some (.int .i64 a0_1) := (blk_cell BK118.out 1).trans rfl; have hcz20_2 : w19.cell? ⟨gb118, 2, none⟩ = some (.slice A0_2 l0_2.length c0_2) := (blk_cell BK118.out 2).trans rfl; have hfz20_0 := blk_frozen BK118.out 0; have hfz20_1 := blk_frozen BK118.out 1; have hfz20_2 := blk_frozen BK118.out 2) | ((with_reducible refine gate_callee (f := 44) rfl ?_); refine goesL_ (some 11) rfl rfl Try.func44 (by kernel_rfl) rfl #[.agg #[.int .i64 a0_0, .int .i64 a0_1, .slice A0_2 l0_2.length c0_2]] rfl (by (try simp only [List.map_toArray, List.map_cons, List.map_nil]); first | done | rfl | (simp only [List.length_drop, List.length_take]; rfl) | (simp only [Int.ofNat_lt, Int.ofNat_le]; rfl)) ?_; (with_reducible refine (semigroupref04_Within.calls k a0_0 a0_1 _ _ l0_2 false _ ?side1 ?side2 A5.out).mono ?_); (case side1 => repeat (first | exact (Kd.C_below HR0_2.out (bB)) | (with_reducible refine Kd.C_alloc ?_ _) | (with_reducible refine Kd.C_drewN ?_ _) | (with_reducible refine Kd.C_drew ?_))); (case side2 => exact HC0_2.out); rintro e w21 ⟨rfl, hb⟩; refine ⟨_, rfl, ?_⟩; have n0_ := Aside0.mk (blk_below (g := gb118) (o := .cells #[.int .i64 a0_0, .int .i64 a0_1, .slice A0_2 l0_2.length c0_2] 24 (0, 0)) (bK) hb); have n1_ := Aside0.mk (below_step (bB) hb); clear BK118; clear HB; have BK118 := n0_; have HB := n1_; clear n0_ n1_; (try clear hb); (try clear hb2); (try clear hk); (try clear hi)))
   go_ret
   exact ⟨by first | rfl | (simp [errW_none, errW_some] <;> rfl) | (simp [*, errW_none, errW_some] <;> rfl), bB⟩
 ·replace c4 := Bool.eq_false_iff.mpr c4
  subst c4
  have H1 : (some 1) = some r := by rw [if_neg (show ¬ (false = true) by decide)] at H; exact H
  clear H
  have H := H1
  clear H1
  obtain rfl := Option.some.inj H
  go_enter Try.func16, Try.ntmps16
  go_wp2_with (first | ((with_reducible refine gate_dst (N := 2) rfl ?_); refine box_event ?hg (N := 2) ?hd (cs := #[.int .i64 a0_0, .int .i64 a0_1, .slice A0_2 l0_2.length c0_2]) (t := 24) ?hr ?_; (case hd => rfl); (case hg => rfl); (case hr => first | (go_simp; done) | (go_simp; rfl)); intro gb118 hg w22 hbox hb; have n0_ := Aside0.mk (below_step (bB) hb); have n1_ := Aside0.mk (hbox); have n2_ := Aside0.mk ((by rw [hg]; exact (below_size (bB)) : w.heap.size ≤ gb118)); have n3_ := Aside0.mk ((by rw [hg]; exact (below_size (bB)) : w.heap.size ≤ gb118)); clear HB; have HB := n0_; have BK118 := n1_; have GW118 := n2_; have GE118 := n3_; clear n0_ n1_ n2_ n3_; clear hb hbox hg) | ((with_reducible refine gate_callee (f := 43) rfl ?_); refine goesL_ (some 7) rfl rfl Try.func43 (by kernel_rfl) rfl #[.int .i64 a1] rfl (by (try simp only [List.map_toArray, List.map_cons, List.map_nil]); first | done | rfl | (simp only [List.length_drop, List.length_take]; rfl) | (simp only [Int.ofNat_lt, Int.ofNat_le]; rfl)) ?_; (with_reducible refine (semigroupref01_MayLetters.calls a1 false _ A3.out).mono ?_); rintro e w' ⟨rfl, ⟨nd, rfl⟩⟩; refine ⟨_, rfl, ?_⟩))
  go_ret
  exact ⟨by first | rfl | (simp [errW_none, errW_some] <;> rfl) | (simp [*, errW_none, errW_some] <;> rfl), bB⟩
end Go.Proofs.Ytjofkebiacaciaa.PAll
end
section
namespace Go.Proofs.Ytjofkebiacaciaa.PAll
open Go.RowKit Go.Proofs.YtjofkebiacaciaaW.PrintWords Go.Proofs.YtjofkebiacaciaaW.PrintLast Go.Proofs.YtjofkebiacaciaaW.PrintMore
attribute [local go_sem] max2_int min2_int max_two min_two max_three min_three max_four min_four
set_option linter.unusedVariables false
set_option linter.unusedSimpArgs false
def semigroupref04_Valid.f (k : Nat) (a0_0 : Int) (a0_1 : Int) (l0_2 : List (S24)) : Option (Bool) := (semigroupref04_Validate.f k a0_0 a0_1 l0_2 6).bind fun t309 => (some (t309 == 0))
theorem semigroupref04_Valid.mono : ∀ a0 a1 a2 k, LeO (semigroupref04_Valid.f k a0 a1 a2) (semigroupref04_Valid.f (k + 1) a0 a1 a2) := by
 intro a0 a1 a2 k
 unfold semigroupref04_Valid.f
 repeat' first
   | (with_reducible exact semigroupref04_Validate.mono _ _ _ _ _)
   | (with_reducible exact LeO.refl _)
   | (with_reducible exact LeO.none _)
   | (with_reducible refine LeO.ite ?_ ?_)
   | (with_reducible refine LeO.bind ?_ (fun _ => ?_))
   | exact semigroupref04_Validate.mono _ _ _ _ _
   | exact LeO.none _
   | refine LeO.ite ?_ ?_
   | refine LeO.bind ?_ (fun _ => ?_)
set_option maxHeartbeats 8000000 in
set_option maxRecDepth 100000 in
theorem semigroupref04_Valid.calls (k : Nat) (a0_0 : Int) (a0_1 : Int) (A0_2 : Option Addr) (c0_2 : Nat) (l0_2 : List (S24)) (r : Bool) (w : World) (hr0_2 : Kd.C k24 w A0_2 l0_2.length l0_2) (hc0_2 : l0_2.length ≤ c0_2) (h : semigroupref04_Valid.f k a0_0 a0_1 l0_2 = some r) :
  Calls Try.prog 19 #[.agg #[.int .i64 a0_0, .int .i64 a0_1, .slice A0_2 l0_2.length c0_2]] w fun e w' => e = .returned (.bool r) ∧ Below w.heap.size w w' := by
 have hu24 := Try.underlying24
 have HR0_2 := Aside0.mk hr0_2
 have HC0_2 := Aside0.mk hc0_2
 clear hr0_2 hc0_2
 have HB := Aside0.mk (Below.refl w.heap.size w)
 have H : ((semigroupref04_Validate.f k a0_0 a0_1 l0_2 6).bind fun t309 => (some (t309 == 0))) = some r := h
 clear h
 replace H := Option.bind_eq_some_iff.mp H
 obtain ⟨t309, A20, H⟩ := H
 replace H : (some (t309 == 0)) = some r := H
 have A2 := Aside0.mk A20
 clear A20
 obtain rfl := Option.some.inj H
 go_enter Try.func19, Try.ntmps19
 go_wp2_with (first | ((with_reducible refine gate_dst (N := 1) rfl ?_); refine box_event ?hg (N := 1) ?hd (cs := #[.int .i64 a0_0, .int .i64 a0_1, .slice A0_2 l0_2.length c0_2]) (t := 24) ?hr ?_; (case hd => rfl); (case hg => rfl); (case hr => first | (go_simp; done) | (go_simp; rfl)); intro gb308 hg w3 hbox hb; have n0_ := Aside0.mk (below_step (bB) hb); have n1_ := Aside0.mk (hbox); have n2_ := Aside0.mk ((by rw [hg]; exact (below_size (bB)) : w.heap.size ≤ gb308)); have n3_ := Aside0.mk ((by rw [hg]; exact (below_size (bB)) : w.heap.size ≤ gb308)); clear HB; have HB := n0_; have BK308 := n1_; have GW308 := n2_; have GE308 := n3_; clear n0_ n1_ n2_ n3_; clear hb hbox hg; have hcz4_0 : w3.cell? ⟨gb308, 0, none⟩ = some (.int .i64 a0_0) := (blk_cell BK308.out 0).trans rfl; have hcz4_1 : w3.cell? ⟨gb308, 1, none⟩ = some (.int .i64 a0_1) := (blk_cell BK308.out 1).trans rfl; have hcz4_2 : w3.cell? ⟨gb308, 2, none⟩ = some (.slice A0_2 l0_2.length c0_2) := (blk_cell BK308.out 2).trans rfl; have hfz4_0 := blk_frozen BK308.out 0; have hfz4_1 := blk_frozen BK308.out 1; have hfz4_2 := blk_frozen BK308.out 2) | ((with_reducible refine gate_callee (f := 16) rfl ?_); refine goesL_ (some 4) rfl rfl Try.func16 (by kernel_rfl) rfl #[.agg #[.int .i64 a0_0, .int .i64 a0_1, .slice A0_2 l0_2.length c0_2], .int .i64 6] rfl (by (try simp only [List.map_toArray, List.map_cons, List.map_nil]); first | done | rfl | (simp only [List.length_drop, List.length_take]; rfl) | (simp only [Int.ofNat_lt, Int.ofNat_le]; rfl)) ?_; (with_reducible refine (semigroupref04_Validate.calls k a0_0 a0_1 _ _ l0_2 6 t309 _ ?side1 ?side2 A2.out).mono ?_); (case side1 => repeat (first | exact (Kd.C_below HR0_2.out HB.out) | (with_reducible refine Kd.C_alloc ?_ _) | (with_reducible refine Kd.C_drewN ?_ _) | (with_reducible refine Kd.C_drew ?_))); (case side2 => exact HC0_2.out); rintro e w5 ⟨rfl, hb⟩; refine ⟨_, rfl, ?_⟩; have n0_ := Aside0.mk (blk_below (g := gb308) (o := .cells #[.int .i64 a0_0, .int .i64 a0_1, .slice A0_2 l0_2.length c0_2] 24 (0, 0)) (bK) hb); have n1_ := Aside0.mk (below_step (bB) hb); clear BK308; clear HB; have BK308 := n0_; have HB := n1_; clear n0_ n1_; (try clear hb); (try clear hb2); (try clear hk); (try clear hi)))
 go_ret
 exact ⟨by first | rfl | (simp [errW_none, errW_some] <;> rfl) | (simp [*, errW_none, errW_some] <;> rfl), bB⟩
end Go.Proofs.Ytjofkebiacaciaa.PAll
end
section
namespace Go.Proofs.Ytjofkebiacaciaa.PAll
open Go.RowKit Go.Proofs.YtjofkebiacaciaaW.PrintWords Go.Proofs.YtjofkebiacaciaaW.PrintLast Go.Proofs.YtjofkebiacaciaaW.PrintMore
set_option linter.all false
class FmtC where
 f : Nat → Int → Int → List S24 → Option ByteArray
 mono : ∀ a0 a1 a2 k, LeO (f k a0 a1 a2) (f (k + 1) a0 a1 a2)
 calls : ∀ (k : Nat) (a0_0 : Int) (a0_1 : Int) (A0_2 : Option Addr) (c0_2 : Nat) (l0_2 : List (S24)) (r : ByteArray) (w : World) (hr0_2 : Kd.C k24 w A0_2 l0_2.length l0_2) (hc0_2 : l0_2.length ≤ c0_2) (h : f k a0_0 a0_1 l0_2 = some r),
  Calls Try.prog 20 #[.agg #[.int .i64 a0_0, .int .i64 a0_1, .slice A0_2 l0_2.length c0_2]] w fun e w' => e = .returned (.string r) ∧ Below w.heap.size w w'
variable [FmtC]
def semigroupref04_Format.f (k : Nat) (a0_0 a0_1 : Int) (l0_2 : List S24) : Option ByteArray := FmtC.f k a0_0 a0_1 l0_2
theorem semigroupref04_Format.mono : ∀ a0 a1 a2 k, LeO (semigroupref04_Format.f k a0 a1 a2) (semigroupref04_Format.f (k + 1) a0 a1 a2) := FmtC.mono
theorem semigroupref04_Format.calls (k : Nat) (a0_0 : Int) (a0_1 : Int) (A0_2 : Option Addr) (c0_2 : Nat) (l0_2 : List (S24)) (r : ByteArray) (w : World) (hr0_2 : Kd.C k24 w A0_2 l0_2.length l0_2) (hc0_2 : l0_2.length ≤ c0_2) (h : semigroupref04_Format.f k a0_0 a0_1 l0_2 = some r) :
  Calls Try.prog 20 #[.agg #[.int .i64 a0_0, .int .i64 a0_1, .slice A0_2 l0_2.length c0_2]] w fun e w' => e = .returned (.string r) ∧ Below w.heap.size w w' := FmtC.calls k a0_0 a0_1 A0_2 c0_2 l0_2 r w hr0_2 hc0_2 h
end Go.Proofs.Ytjofkebiacaciaa.PAll
end
section
namespace Go.Proofs.Ytjofkebiacaciaa.PAll
open Go.RowKit Go.Proofs.YtjofkebiacaciaaW.PrintWords Go.Proofs.YtjofkebiacaciaaW.PrintLast Go.Proofs.YtjofkebiacaciaaW.PrintMore
attribute [local go_sem] max2_int min2_int max_two min_two max_three min_three max_four min_four
set_option linter.unusedVariables false
set_option linter.unusedSimpArgs false
set_option linter.all false
variable [FmtC]
def semigrouplaw04_ExprFormats.f (k : Nat) (a0_0 : Int) (a0_1 : Int) (l0_2 : List (S24)) : Option (Bool) := (expr_Format.f k a0_0 a0_1 l0_2).bind fun t315 => ((semigroupref04_Valid.f k a0_0 a0_1 l0_2).bind fun t316 => (if t316 = true then ((semigroupref04_Format.f k a0_0 a0_1 l0_2).bind fun t317 => (if t315.toList = t317.toList then ((semigrouplaw04_awake.f k).bind fun t318 => (some t318)) else (some false))) else (if t315.toList = ([] : List UInt8) then ((semigrouplaw04_awake.f k).bind fun t319 => (some t319)) else (some false))))
theorem semigrouplaw04_ExprFormats.mono : ∀ a0 a1 a2 k, LeO (semigrouplaw04_ExprFormats.f k a0 a1 a2) (semigrouplaw04_ExprFormats.f (k + 1) a0 a1 a2) := by
 intro a0 a1 a2 k
 unfold semigrouplaw04_ExprFormats.f
 repeat' first
   | (with_reducible exact expr_Format.mono _ _ _ _)
   | (with_reducible exact semigrouplaw04_awake.mono _)
   | (with_reducible exact semigroupref04_Format.mono _ _ _ _)
   | (with_reducible exact semigroupref04_Valid.mono _ _ _ _)
   | (with_reducible exact LeO.refl _)
   | (with_reducible exact LeO.none _)
   | (with_reducible refine LeO.ite ?_ ?_)
   | (with_reducible refine LeO.bind ?_ (fun _ => ?_))
   | exact expr_Format.mono _ _ _ _
   | exact semigrouplaw04_awake.mono _
   | exact semigroupref04_Format.mono _ _ _ _
   | exact semigroupref04_Valid.mono _ _ _ _
   | exact LeO.none _
   | refine LeO.ite ?_ ?_
   | refine LeO.bind ?_ (fun _ => ?_)
set_option maxHeartbeats 8000000 in
set_option maxRecDepth 100000 in
theorem semigrouplaw04_ExprFormats.calls (k : Nat) (a0_0 : Int) (a0_1 : Int) (A0_2 : Option Addr) (c0_2 : Nat) (l0_2 : List (S24)) (r : Bool) (w : World) (hr0_2 : Kd.C k24 w A0_2 l0_2.length l0_2) (hc0_2 : l0_2.length ≤ c0_2) (h : semigrouplaw04_ExprFormats.f k a0_0 a0_1 l0_2 = some r) :
  Calls Try.prog 4 #[.agg #[.int .i64 a0_0, .int .i64 a0_1, .slice A0_2 l0_2.length c0_2]] w fun e w' => e = .returned (.bool r) ∧ Below w.heap.size w w' := by
 have hu24 := Try.underlying24
 have HR0_2 := Aside0.mk hr0_2
 have HC0_2 := Aside0.mk hc0_2
 clear hr0_2 hc0_2
 have HB := Aside0.mk (Below.refl w.heap.size w)
 have H : ((expr_Format.f k a0_0 a0_1 l0_2).bind fun t315 => ((semigroupref04_Valid.f k a0_0 a0_1 l0_2).bind fun t316 => (if t316 = true then ((semigroupref04_Format.f k a0_0 a0_1 l0_2).bind fun t317 => (if t315.toList = t317.toList then ((semigrouplaw04_awake.f k).bind fun t318 => (some t318)) else (some false))) else (if t315.toList = ([] : List UInt8) then ((semigrouplaw04_awake.f k).bind fun t319 => (some t319)) else (some false))))) = some r := h
 clear h
 replace H := Option.bind_eq_some_iff.mp H
 obtain ⟨t315, A20, H⟩ := H
 replace H : ((semigroupref04_Valid.f k a0_0 a0_1 l0_2).bind fun t316 => (if t316 = true then ((semigroupref04_Format.f k a0_0 a0_1 l0_2).bind fun t317 => (if t315.toList = t317.toList then ((semigrouplaw04_awake.f k).bind fun t318 => (some t318)) else (some false))) else (if t315.toList = ([] : List UInt8) then ((semigrouplaw04_awake.f k).bind fun t319 => (some t319)) else (some false)))) = some r := H
 have A2 := Aside0.mk A20
 clear A20
 replace H := Option.bind_eq_some_iff.mp H
 obtain ⟨t316, A30, H⟩ := H
 replace H : (if t316 = true then ((semigroupref04_Format.f k a0_0 a0_1 l0_2).bind fun t317 => (if t315.toList = t317.toList then ((semigrouplaw04_awake.f k).bind fun t318 => (some t318)) else (some false))) else (if t315.toList = ([] : List UInt8) then ((semigrouplaw04_awake.f k).bind fun t319 => (some t319)) else (some false))) = some r := H
 have A3 := Aside0.mk A30
 clear A30
 by_cases c4 : t316 = true
 ·subst c4
  have H1 : ((semigroupref04_Format.f k a0_0 a0_1 l0_2).bind fun t317 => (if t315.toList = t317.toList then ((semigrouplaw04_awake.f k).bind fun t318 => (some t318)) else (some false))) = some r := by rw [if_pos rfl] at H; exact H
  clear H
  have H := H1
  clear H1
  replace H := Option.bind_eq_some_iff.mp H
  obtain ⟨t317, A50, H⟩ := H
  replace H : (if t315.toList = t317.toList then ((semigrouplaw04_awake.f k).bind fun t318 => (some t318)) else (some false)) = some r := H
  have A5 := Aside0.mk A50
  clear A50
  by_cases c6 : t315.toList = t317.toList
  ·rw [if_pos c6] at H
   have c6b0 : (t315.toList == t317.toList) = true := beq_iff_eq.mpr c6
   have c6b1 : (t315.toList != t317.toList) = false := bne_eq_false_iff_eq.mpr c6
   clear c6
   replace H := Option.bind_eq_some_iff.mp H
   obtain ⟨t318, A70, H⟩ := H
   replace H : (some t318) = some r := H
   have A7 := Aside0.mk A70
   clear A70
   obtain rfl := Option.some.inj H
   go_enter Try.func4, Try.ntmps4
   go_wp2_with (first | ((with_reducible refine gate_dst (N := 1) rfl ?_); refine box_event ?hg (N := 1) ?hd (cs := #[.int .i64 a0_0, .int .i64 a0_1, .slice A0_2 l0_2.length c0_2]) (t := 24) ?hr ?_; (case hd => rfl); (case hg => rfl); (case hr => first | (go_simp; done) | (go_simp; rfl)); intro gb314 hg w8 hbox hb; have n0_ := Aside0.mk (below_step (bB) hb); have n1_ := Aside0.mk (hbox); have n2_ := Aside0.mk ((by rw [hg]; exact (below_size (bB)) : w.heap.size ≤ gb314)); have n3_ := Aside0.mk ((by rw [hg]; exact (below_size (bB)) : w.heap.size ≤ gb314)); clear HB; have HB := n0_; have BK314 := n1_; have GW314 := n2_; have GE314 := n3_; clear n0_ n1_ n2_ n3_; clear hb hbox hg; have hcz9_0 : w8.cell? ⟨gb314, 0, none⟩ = some (.int .i64 a0_0) := (blk_cell BK314.out 0).trans rfl; have hcz9_1 : w8.cell? ⟨gb314, 1, none⟩ = some (.int .i64 a0_1) := (blk_cell BK314.out 1).trans rfl; have hcz9_2 : w8.cell? ⟨gb314, 2, none⟩ = some (.slice A0_2 l0_2.length c0_2) := (blk_cell BK314.out 2).trans rfl; have hfz9_0 := blk_frozen BK314.out 0; have hfz9_1 := blk_frozen BK314.out 1; have hfz9_2 := blk_frozen BK314.out 2) | ((with_reducible refine gate_callee (f := 18) rfl ?_); refine goesL_ (some 5) rfl rfl Try.func18 (by kernel_rfl) rfl #[.agg #[.int .i64 a0_0, .int .i64 a0_1, .slice A0_2 l0_2.length c0_2]] rfl (by (try simp only [List.map_toArray, List.map_cons, List.map_nil]); first | done | rfl | (simp only [List.length_drop, List.length_take]; rfl) | (simp only [Int.ofNat_lt, Int.ofNat_le]; rfl)) ?_; (with_reducible refine (expr_Format.calls k a0_0 a0_1 _ _ l0_2 t315 _ ?side1 ?side2 A2.out).mono ?_); (case side1 => repeat (first | exact (Kd.C_below HR0_2.out HB.out) | (with_reducible refine Kd.C_alloc ?_ _) | (with_reducible refine Kd.C_drewN ?_ _) | (with_reducible refine Kd.C_drew ?_))); (case side2 => exact HC0_2.out); rintro e w10 ⟨rfl, hb⟩; refine ⟨_, rfl, ?_⟩; have n0_ := Aside0.mk (blk_below (g := gb314) (o := .cells #[.int .i64 a0_0, .int .i64 a0_1, .slice A0_2 l0_2.length c0_2] 24 (0, 0)) (bK) hb); have n1_ := Aside0.mk (below_step (bB) hb); clear BK314; clear HB; have BK314 := n0_; have HB := n1_; clear n0_ n1_; (try clear hb); (try clear hb2); (try clear hk); (try clear hi); have hcz11_0 : w10.cell? ⟨gb314, 0, none⟩ = some (.int .i64 a0_0) := (blk_cell BK314.out 0).trans rfl; have hcz11_1 : w10.cell? ⟨gb314, 1, none⟩ = some (.int .i64 a0_1) := (blk_cell BK314.out 1).trans rfl; have hcz11_2 : w10.cell? ⟨gb314, 2, none⟩ = some (.slice A0_2 l0_2.length c0_2) := (blk_cell BK314.out 2).trans rfl; have hfz11_0 := blk_frozen BK314.out 0; have hfz11_1 := blk_frozen BK314.out 1; have hfz11_2 := blk_frozen BK314.out 2) | ((with_reducible refine gate_callee (f := 19) rfl ?_); refine goesL_ (some 7) rfl rfl Try.func19 (by kernel_rfl) rfl #[.agg #[.int .i64 a0_0, .int .i64 a0_1, .slice A0_2 l0_2.length c0_2]] rfl (by (try simp only [List.map_toArray, List.map_cons, List.map_nil]); first | done | rfl | (simp only [List.length_drop, List.length_take]; rfl) | (simp only [Int.ofNat_lt, Int.ofNat_le]; rfl)) ?_; (with_reducible refine (semigroupref04_Valid.calls k a0_0 a0_1 _ _ l0_2 true _ ?side1 ?side2 A3.out).mono ?_); (case side1 => repeat (first | exact (Kd.C_below HR0_2.out HB.out) | (with_reducible refine Kd.C_alloc ?_ _) | (with_reducible refine Kd.C_drewN ?_ _) | (with_reducible refine Kd.C_drew ?_))); (case side2 => exact HC0_2.out); rintro e w12 ⟨rfl, hb⟩; refine ⟨_, rfl, ?_⟩; have n0_ := Aside0.mk (blk_below (g := gb314) (o := .cells #[.int .i64 a0_0, .int .i64 a0_1, .slice A0_2 l0_2.length c0_2] 24 (0, 0)) (bK) hb); have n1_ := Aside0.mk (below_step (bB) hb); clear BK314; clear HB; have BK314 := n0_; have HB := n1_; clear n0_ n1_; (try clear hb); (try clear hb2); (try clear hk); (try clear hi); have hcz13_0 : w12.cell? ⟨gb314, 0, none⟩ = some (.int .i64 a0_0) := (blk_cell BK314.out 0).trans rfl; have hcz13_1 : w12.cell? ⟨gb314, 1, none⟩ = some (.int .i64 a0_1) := (blk_cell BK314.out 1).trans rfl; have hcz13_2 : w12.cell? ⟨gb314, 2, none⟩ = some (.slice A0_2 l0_2.length c0_2) := (blk_cell BK314.out 2).trans rfl; have hfz13_0 := blk_frozen BK314.out 0; have hfz13_1 := blk_frozen BK314.out 1; have hfz13_2 := blk_frozen BK314.out 2) | ((with_reducible refine gate_callee (f := 20) rfl ?_); refine goesL_ (some 16) rfl rfl Try.func20 (by kernel_rfl) rfl #[.agg #[.int .i64 a0_0, .int .i64 a0_1, .slice A0_2 l0_2.length c0_2]] rfl (by (try simp only [List.map_toArray, List.map_cons, List.map_nil]); first | done | rfl | (simp only [List.length_drop, List.length_take]; rfl) | (simp only [Int.ofNat_lt, Int.ofNat_le]; rfl)) ?_; (with_reducible refine (semigroupref04_Format.calls k a0_0 a0_1 _ _ l0_2 t317 _ ?side1 ?side2 A5.out).mono ?_); (case side1 => repeat (first | exact (Kd.C_below HR0_2.out HB.out) | (with_reducible refine Kd.C_alloc ?_ _) | (with_reducible refine Kd.C_drewN ?_ _) | (with_reducible refine Kd.C_drew ?_))); (case side2 => exact HC0_2.out); rintro e w14 ⟨rfl, hb⟩; refine ⟨_, rfl, ?_⟩; have n0_ := Aside0.mk (blk_below (g := gb314) (o := .cells #[.int .i64 a0_0, .int .i64 a0_1, .slice A0_2 l0_2.length c0_2] 24 (0, 0)) (bK) hb); have n1_ := Aside0.mk (below_step (bB) hb); clear BK314; clear HB; have BK314 := n0_; have HB := n1_; clear n0_ n1_; (try clear hb); (try clear hb2); (try clear hk); (try clear hi)) | (go_at_call 17; (with_reducible refine (semigrouplaw04_awake.calls k  t318 _ A7.out).mono ?_); rintro e w15 ⟨rfl, hb⟩; have n0_ := Aside0.mk (blk_below (g := gb314) (o := .cells #[.int .i64 a0_0, .int .i64 a0_1, .slice A0_2 l0_2.length c0_2] 24 (0, 0)) (bK) hb); have n1_ := Aside0.mk (below_step (bB) hb); clear BK314; clear HB; have BK314 := n0_; have HB := n1_; clear n0_ n1_; (try clear hb); (try clear hb2); (try clear hk); (try clear hi)))
   go_ret
   exact ⟨by first | rfl | (simp [errW_none, errW_some] <;> rfl) | (simp [*, errW_none, errW_some] <;> rfl), bB⟩
  ·rw [if_neg c6] at H
   have c6b0 : (t315.toList == t317.toList) = false := beq_eq_false_iff_ne.mpr c6
   have c6b1 : (t315.toList != t317.toList) = true := bne_iff_ne.mpr c6
   obtain rfl := Option.some.inj H
   go_enter Try.func4, Try.ntmps4
   go_wp2_with (first | ((with_reducible refine gate_dst (N := 1) rfl ?_); refine box_event ?hg (N := 1) ?hd (cs := #[.int .i64 a0_0, .int .i64 a0_1, .slice A0_2 l0_2.length c0_2]) (t := 24) ?hr ?_; (case hd => rfl); (case hg => rfl); (case hr => first | (go_simp; done) | (go_simp; rfl)); intro gb314 hg w16 hbox hb; have n0_ := Aside0.mk (below_step (bB) hb); have n1_ := Aside0.mk (hbox); have n2_ := Aside0.mk ((by rw [hg]; exact (below_size (bB)) : w.heap.size ≤ gb314)); have n3_ := Aside0.mk ((by rw [hg]; exact (below_size (bB)) : w.heap.size ≤ gb314)); clear HB; have HB := n0_; have BK314 := n1_; have GW314 := n2_; have GE314 := n3_; clear n0_ n1_ n2_ n3_; clear hb hbox hg; have hcz17_0 : w16.cell? ⟨gb314, 0, none⟩ = some (.int .i64 a0_0) := (blk_cell BK314.out 0).trans rfl; have hcz17_1 : w16.cell? ⟨gb314, 1, none⟩ = some (.int .i64 a0_1) := (blk_cell BK314.out 1).trans rfl; have hcz17_2 : w16.cell? ⟨gb314, 2, none⟩ = some (.slice A0_2 l0_2.length c0_2) := (blk_cell BK314.out 2).trans rfl; have hfz17_0 := blk_frozen BK314.out 0; have hfz17_1 := blk_frozen BK314.out 1; have hfz17_2 := blk_frozen BK314.out 2) | ((with_reducible refine gate_callee (f := 18) rfl ?_); refine goesL_ (some 5) rfl rfl Try.func18 (by kernel_rfl) rfl #[.agg #[.int .i64 a0_0, .int .i64 a0_1, .slice A0_2 l0_2.length c0_2]] rfl (by (try simp only [List.map_toArray, List.map_cons, List.map_nil]); first | done | rfl | (simp only [List.length_drop, List.length_take]; rfl) | (simp only [Int.ofNat_lt, Int.ofNat_le]; rfl)) ?_; (with_reducible refine (expr_Format.calls k a0_0 a0_1 _ _ l0_2 t315 _ ?side1 ?side2 A2.out).mono ?_); (case side1 => repeat (first | exact (Kd.C_below HR0_2.out HB.out) | (with_reducible refine Kd.C_alloc ?_ _) | (with_reducible refine Kd.C_drewN ?_ _) | (with_reducible refine Kd.C_drew ?_))); (case side2 => exact HC0_2.out); rintro e w18 ⟨rfl, hb⟩; refine ⟨_, rfl, ?_⟩; have n0_ := Aside0.mk (blk_below (g := gb314) (o := .cells #[.int .i64 a0_0, .int .i64 a0_1, .slice A0_2 l0_2.length c0_2] 24 (0, 0)) (bK) hb); have n1_ := Aside0.mk (below_step (bB) hb); clear BK314; clear HB; have BK314 := n0_; have HB := n1_; clear n0_ n1_; (try clear hb); (try clear hb2); (try clear hk); (try clear hi); have hcz19_0 : w18.cell? ⟨gb314, 0, none⟩ = some (.int .i64 a0_0) := (blk_cell BK314.out 0).trans rfl; have hcz19_1 : w18.cell? ⟨gb314, 1, none⟩ = some (.int .i64 a0_1) := (blk_cell BK314.out 1).trans rfl; have hcz19_2 : w18.cell? ⟨gb314, 2, none⟩ = some (.slice A0_2 l0_2.length c0_2) := (blk_cell BK314.out 2).trans rfl; have hfz19_0 := blk_frozen BK314.out 0; have hfz19_1 := blk_frozen BK314.out 1; have hfz19_2 := blk_frozen BK314.out 2) | ((with_reducible refine gate_callee (f := 19) rfl ?_); refine goesL_ (some 7) rfl rfl Try.func19 (by kernel_rfl) rfl #[.agg #[.int .i64 a0_0, .int .i64 a0_1, .slice A0_2 l0_2.length c0_2]] rfl (by (try simp only [List.map_toArray, List.map_cons, List.map_nil]); first | done | rfl | (simp only [List.length_drop, List.length_take]; rfl) | (simp only [Int.ofNat_lt, Int.ofNat_le]; rfl)) ?_; (with_reducible refine (semigroupref04_Valid.calls k a0_0 a0_1 _ _ l0_2 true _ ?side1 ?side2 A3.out).mono ?_); (case side1 => repeat (first | exact (Kd.C_below HR0_2.out HB.out) | (with_reducible refine Kd.C_alloc ?_ _) | (with_reducible refine Kd.C_drewN ?_ _) | (with_reducible refine Kd.C_drew ?_))); (case side2 => exact HC0_2.out); rintro e w20 ⟨rfl, hb⟩; refine ⟨_, rfl, ?_⟩; have n0_ := Aside0.mk (blk_below (g := gb314) (o := .cells #[.int .i64 a0_0, .int .i64 a0_1, .slice A0_2 l0_2.length c0_2] 24 (0, 0)) (bK) hb); have n1_ := Aside0.mk (below_step (bB) hb); clear BK314; clear HB; have BK314 := n0_; have HB := n1_; clear n0_ n1_; (try clear hb); (try clear hb2); (try clear hk); (try clear hi); have hcz21_0 : w20.cell? ⟨gb314, 0, none⟩ = some (.int .i64 a0_0) := (blk_cell BK314.out 0).trans rfl; have hcz21_1 : w20.cell? ⟨gb314, 1, none⟩ = some (.int .i64 a0_1) := (blk_cell BK314.out 1).trans rfl; have hcz21_2 : w20.cell? ⟨gb314, 2, none⟩ = some (.slice A0_2 l0_2.length c0_2) := (blk_cell BK314.out 2).trans rfl; have hfz21_0 := blk_frozen BK314.out 0; have hfz21_1 := blk_frozen BK314.out 1; have hfz21_2 := blk_frozen BK314.out 2) | ((with_reducible refine gate_callee (f := 20) rfl ?_); refine goesL_ (some 16) rfl rfl Try.func20 (by kernel_rfl) rfl #[.agg #[.int .i64 a0_0, .int .i64 a0_1, .slice A0_2 l0_2.length c0_2]] rfl (by (try simp only [List.map_toArray, List.map_cons, List.map_nil]); first | done | rfl | (simp only [List.length_drop, List.length_take]; rfl) | (simp only [Int.ofNat_lt, Int.ofNat_le]; rfl)) ?_; (with_reducible refine (semigroupref04_Format.calls k a0_0 a0_1 _ _ l0_2 t317 _ ?side1 ?side2 A5.out).mono ?_); (case side1 => repeat (first | exact (Kd.C_below HR0_2.out HB.out) | (with_reducible refine Kd.C_alloc ?_ _) | (with_reducible refine Kd.C_drewN ?_ _) | (with_reducible refine Kd.C_drew ?_))); (case side2 => exact HC0_2.out); rintro e w22 ⟨rfl, hb⟩; refine ⟨_, rfl, ?_⟩; have n0_ := Aside0.mk (blk_below (g := gb314) (o := .cells #[.int .i64 a0_0, .int .i64 a0_1, .slice A0_2 l0_2.length c0_2] 24 (0, 0)) (bK) hb); have n1_ := Aside0.mk (below_step (bB) hb); clear BK314; clear HB; have BK314 := n0_; have HB := n1_; clear n0_ n1_; (try clear hb); (try clear hb2); (try clear hk); (try clear hi)))
   go_ret
   exact ⟨by first | rfl | (simp [errW_none, errW_some] <;> rfl) | (simp [*, errW_none, errW_some] <;> rfl), bB⟩
 ·replace c4 := Bool.eq_false_iff.mpr c4
  subst c4
  have H1 : (if t315.toList = ([] : List UInt8) then ((semigrouplaw04_awake.f k).bind fun t319 => (some t319)) else (some false)) = some r := by rw [if_neg (show ¬ (false = true) by decide)] at H; exact H
  clear H
  have H := H1
  clear H1
  by_cases c23 : t315.toList = ([] : List UInt8)
  ·rw [if_pos c23] at H
   have c23b0 : (t315.toList == ([] : List UInt8)) = true := beq_iff_eq.mpr c23
   have c23b1 : (t315.toList != ([] : List UInt8)) = false := bne_eq_false_iff_eq.mpr c23
   clear c23
   replace H := Option.bind_eq_some_iff.mp H
   obtain ⟨t319, A240, H⟩ := H
   replace H : (some t319) = some r := H
   have A24 := Aside0.mk A240
   clear A240
   obtain rfl := Option.some.inj H
   go_enter Try.func4, Try.ntmps4
   go_wp2_with (first | ((with_reducible refine gate_dst (N := 1) rfl ?_); refine box_event ?hg (N := 1) ?hd (cs := #[.int .i64 a0_0, .int .i64 a0_1, .slice A0_2 l0_2.length c0_2]) (t := 24) ?hr ?_; (case hd => rfl); (case hg => rfl); (case hr => first | (go_simp; done) | (go_simp; rfl)); intro gb314 hg w25 hbox hb; have n0_ := Aside0.mk (below_step (bB) hb); have n1_ := Aside0.mk (hbox); have n2_ := Aside0.mk ((by rw [hg]; exact (below_size (bB)) : w.heap.size ≤ gb314)); have n3_ := Aside0.mk ((by rw [hg]; exact (below_size (bB)) : w.heap.size ≤ gb314)); clear HB; have HB := n0_; have BK314 := n1_; have GW314 := n2_; have GE314 := n3_; clear n0_ n1_ n2_ n3_; clear hb hbox hg; have hcz26_0 : w25.cell? ⟨gb314, 0, none⟩ = some (.int .i64 a0_0) := (blk_cell BK314.out 0).trans rfl; have hcz26_1 : w25.cell? ⟨gb314, 1, none⟩ = some (.int .i64 a0_1) := (blk_cell BK314.out 1).trans rfl; have hcz26_2 : w25.cell? ⟨gb314, 2, none⟩ = some (.slice A0_2 l0_2.length c0_2) := (blk_cell BK314.out 2).trans rfl; have hfz26_0 := blk_frozen BK314.out 0; have hfz26_1 := blk_frozen BK314.out 1; have hfz26_2 := blk_frozen BK314.out 2) | ((with_reducible refine gate_callee (f := 18) rfl ?_); refine goesL_ (some 5) rfl rfl Try.func18 (by kernel_rfl) rfl #[.agg #[.int .i64 a0_0, .int .i64 a0_1, .slice A0_2 l0_2.length c0_2]] rfl (by (try simp only [List.map_toArray, List.map_cons, List.map_nil]); first | done | rfl | (simp only [List.length_drop, List.length_take]; rfl) | (simp only [Int.ofNat_lt, Int.ofNat_le]; rfl)) ?_; (with_reducible refine (expr_Format.calls k a0_0 a0_1 _ _ l0_2 t315 _ ?side1 ?side2 A2.out).mono ?_); (case side1 => repeat (first | exact (Kd.C_below HR0_2.out HB.out) | (with_reducible refine Kd.C_alloc ?_ _) | (with_reducible refine Kd.C_drewN ?_ _) | (with_reducible refine Kd.C_drew ?_))); (case side2 => exact HC0_2.out); rintro e w27 ⟨rfl, hb⟩; refine ⟨_, rfl, ?_⟩; have n0_ := Aside0.mk (blk_below (g := gb314) (o := .cells #[.int .i64 a0_0, .int .i64 a0_1, .slice A0_2 l0_2.length c0_2] 24 (0, 0)) (bK) hb); have n1_ := Aside0.mk (below_step (bB) hb); clear BK314; clear HB; have BK314 := n0_; have HB := n1_; clear n0_ n1_; (try clear hb); (try clear hb2); (try clear hk); (try clear hi); have hcz28_0 : w27.cell? ⟨gb314, 0, none⟩ = some (.int .i64 a0_0) := (blk_cell BK314.out 0).trans rfl; have hcz28_1 : w27.cell? ⟨gb314, 1, none⟩ = some (.int .i64 a0_1) := (blk_cell BK314.out 1).trans rfl; have hcz28_2 : w27.cell? ⟨gb314, 2, none⟩ = some (.slice A0_2 l0_2.length c0_2) := (blk_cell BK314.out 2).trans rfl; have hfz28_0 := blk_frozen BK314.out 0; have hfz28_1 := blk_frozen BK314.out 1; have hfz28_2 := blk_frozen BK314.out 2) | ((with_reducible refine gate_callee (f := 19) rfl ?_); refine goesL_ (some 7) rfl rfl Try.func19 (by kernel_rfl) rfl #[.agg #[.int .i64 a0_0, .int .i64 a0_1, .slice A0_2 l0_2.length c0_2]] rfl (by (try simp only [List.map_toArray, List.map_cons, List.map_nil]); first | done | rfl | (simp only [List.length_drop, List.length_take]; rfl) | (simp only [Int.ofNat_lt, Int.ofNat_le]; rfl)) ?_; (with_reducible refine (semigroupref04_Valid.calls k a0_0 a0_1 _ _ l0_2 false _ ?side1 ?side2 A3.out).mono ?_); (case side1 => repeat (first | exact (Kd.C_below HR0_2.out HB.out) | (with_reducible refine Kd.C_alloc ?_ _) | (with_reducible refine Kd.C_drewN ?_ _) | (with_reducible refine Kd.C_drew ?_))); (case side2 => exact HC0_2.out); rintro e w29 ⟨rfl, hb⟩; refine ⟨_, rfl, ?_⟩; have n0_ := Aside0.mk (blk_below (g := gb314) (o := .cells #[.int .i64 a0_0, .int .i64 a0_1, .slice A0_2 l0_2.length c0_2] 24 (0, 0)) (bK) hb); have n1_ := Aside0.mk (below_step (bB) hb); clear BK314; clear HB; have BK314 := n0_; have HB := n1_; clear n0_ n1_; (try clear hb); (try clear hb2); (try clear hk); (try clear hi)) | (go_at_call 17; (with_reducible refine (semigrouplaw04_awake.calls k  t319 _ A24.out).mono ?_); rintro e w30 ⟨rfl, hb⟩; have n0_ := Aside0.mk (blk_below (g := gb314) (o := .cells #[.int .i64 a0_0, .int .i64 a0_1, .slice A0_2 l0_2.length c0_2] 24 (0, 0)) (bK) hb); have n1_ := Aside0.mk (below_step (bB) hb); clear BK314; clear HB; have BK314 := n0_; have HB := n1_; clear n0_ n1_; (try clear hb); (try clear hb2); (try clear hk); (try clear hi)))
   go_ret
   exact ⟨by first | rfl | (simp [errW_none, errW_some] <;> rfl) | (simp [*, errW_none, errW_some] <;> rfl), bB⟩
  ·rw [if_neg c23] at H
   have c23b0 : (t315.toList == ([] : List UInt8)) = false := beq_eq_false_iff_ne.mpr c23
   have c23b1 : (t315.toList != ([] : List UInt8)) = true := bne_iff_ne.mpr c23
   obtain rfl := Option.some.inj H
   go_enter Try.func4, Try.ntmps4
   go_wp2_with (first | ((with_reducible refine gate_dst (N := 1) rfl ?_); refine box_event ?hg (N := 1) ?hd (cs := #[.int .i64 a0_0, .int .i64 a0_1, .slice A0_2 l0_2.length c0_2]) (t := 24) ?hr ?_; (case hd => rfl); (case hg => rfl); (case hr => first | (go_simp; done) | (go_simp; rfl)); intro gb314 hg w31 hbox hb; have n0_ := Aside0.mk (below_step (bB) hb); have n1_ := Aside0.mk (hbox); have n2_ := Aside0.mk ((by rw [hg]; exact (below_size (bB)) : w.heap.size ≤ gb314)); have n3_ := Aside0.mk ((by rw [hg]; exact (below_size (bB)) : w.heap.size ≤ gb314)); clear HB; have HB := n0_; have BK314 := n1_; have GW314 := n2_; have GE314 := n3_; clear n0_ n1_ n2_ n3_; clear hb hbox hg; have hcz32_0 : w31.cell? ⟨gb314, 0, none⟩ = some (.int .i64 a0_0) := (blk_cell BK314.out 0).trans rfl; have hcz32_1 : w31.cell? ⟨gb314, 1, none⟩ = some (.int .i64 a0_1) := (blk_cell BK314.out 1).trans rfl; have hcz32_2 : w31.cell? ⟨gb314, 2, none⟩ = some (.slice A0_2 l0_2.length c0_2) := (blk_cell BK314.out 2).trans rfl; have hfz32_0 := blk_frozen BK314.out 0; have hfz32_1 := blk_frozen BK314.out 1; have hfz32_2 := blk_frozen BK314.out 2) | ((with_reducible refine gate_callee (f := 18) rfl ?_); refine goesL_ (some 5) rfl rfl Try.func18 (by kernel_rfl) rfl #[.agg #[.int .i64 a0_0, .int .i64 a0_1, .slice A0_2 l0_2.length c0_2]] rfl (by (try simp only [List.map_toArray, List.map_cons, List.map_nil]); first | done | rfl | (simp only [List.length_drop, List.length_take]; rfl) | (simp only [Int.ofNat_lt, Int.ofNat_le]; rfl)) ?_; (with_reducible refine (expr_Format.calls k a0_0 a0_1 _ _ l0_2 t315 _ ?side1 ?side2 A2.out).mono ?_); (case side1 => repeat (first | exact (Kd.C_below HR0_2.out HB.out) | (with_reducible refine Kd.C_alloc ?_ _) | (with_reducible refine Kd.C_drewN ?_ _) | (with_reducible refine Kd.C_drew ?_))); (case side2 => exact HC0_2.out); rintro e w33 ⟨rfl, hb⟩; refine ⟨_, rfl, ?_⟩; have n0_ := Aside0.mk (blk_below (g := gb314) (o := .cells #[.int .i64 a0_0, .int .i64 a0_1, .slice A0_2 l0_2.length c0_2] 24 (0, 0)) (bK) hb); have n1_ := Aside0.mk (below_step (bB) hb); clear BK314; clear HB; have BK314 := n0_; have HB := n1_; clear n0_ n1_; (try clear hb); (try clear hb2); (try clear hk); (try clear hi); have hcz34_0 : w33.cell? ⟨gb314, 0, none⟩ = some (.int .i64 a0_0) := (blk_cell BK314.out 0).trans rfl; have hcz34_1 : w33.cell? ⟨gb314, 1, none⟩ = some (.int .i64 a0_1) := (blk_cell BK314.out 1).trans rfl; have hcz34_2 : w33.cell? ⟨gb314, 2, none⟩ = some (.slice A0_2 l0_2.length c0_2) := (blk_cell BK314.out 2).trans rfl; have hfz34_0 := blk_frozen BK314.out 0; have hfz34_1 := blk_frozen BK314.out 1; have hfz34_2 := blk_frozen BK314.out 2) | ((with_reducible refine gate_callee (f := 19) rfl ?_); refine goesL_ (some 7) rfl rfl Try.func19 (by kernel_rfl) rfl #[.agg #[.int .i64 a0_0, .int .i64 a0_1, .slice A0_2 l0_2.length c0_2]] rfl (by (try simp only [List.map_toArray, List.map_cons, List.map_nil]); first | done | rfl | (simp only [List.length_drop, List.length_take]; rfl) | (simp only [Int.ofNat_lt, Int.ofNat_le]; rfl)) ?_; (with_reducible refine (semigroupref04_Valid.calls k a0_0 a0_1 _ _ l0_2 false _ ?side1 ?side2 A3.out).mono ?_); (case side1 => repeat (first | exact (Kd.C_below HR0_2.out HB.out) | (with_reducible refine Kd.C_alloc ?_ _) | (with_reducible refine Kd.C_drewN ?_ _) | (with_reducible refine Kd.C_drew ?_))); (case side2 => exact HC0_2.out); rintro e w35 ⟨rfl, hb⟩; refine ⟨_, rfl, ?_⟩; have n0_ := Aside0.mk (blk_below (g := gb314) (o := .cells #[.int .i64 a0_0, .int .i64 a0_1, .slice A0_2 l0_2.length c0_2] 24 (0, 0)) (bK) hb); have n1_ := Aside0.mk (below_step (bB) hb); clear BK314; clear HB; have BK314 := n0_; have HB := n1_; clear n0_ n1_; (try clear hb); (try clear hb2); (try clear hk); (try clear hi)))
   go_ret
   exact ⟨by first | rfl | (simp [errW_none, errW_some] <;> rfl) | (simp [*, errW_none, errW_some] <;> rfl), bB⟩
end Go.Proofs.Ytjofkebiacaciaa.PAll
end
section
namespace Go.Proofs.Ytjofkebiacaciaa.PAll
open Go.RowKit Go.Proofs.YtjofkebiacaciaaW.PrintWords Go.Proofs.YtjofkebiacaciaaW.PrintLast Go.Proofs.YtjofkebiacaciaaW.PrintMore
attribute [local go_sem] max2_int min2_int max_two min_two max_three min_three max_four min_four
set_option linter.unusedVariables false
set_option linter.unusedSimpArgs false
def semigroupref04_level.f (a0 : Int) : Option (Int) := if a0 = 4 then (some 1) else (if a0 = 6 then (some 2) else (if a0 = 5 then (some 3) else (if a0 = 8 then (some 4) else (if a0 = 7 then (some 5) else (some 6)))))
set_option maxHeartbeats 8000000 in
set_option maxRecDepth 100000 in
theorem semigroupref04_level.calls (a0 : Int) (r : Int) (w : World) (h : semigroupref04_level.f a0 = some r) :
  Calls Try.prog 70 #[.int .i64 a0] w fun e w' => e = .returned (.int .i64 r) ∧ Drawn0 w w' := by
 have H : (if a0 = 4 then (some 1) else (if a0 = 6 then (some 2) else (if a0 = 5 then (some 3) else (if a0 = 8 then (some 4) else (if a0 = 7 then (some 5) else (some 6)))))) = some r := h
 clear h
 by_cases c2 : a0 = 4
 ·rw [if_pos c2] at H
  have c2b0 : (a0 == 4) = true := beq_iff_eq.mpr c2
  have c2b1 : (a0 != 4) = false := bne_eq_false_iff_eq.mpr c2
  clear c2
  obtain rfl := Option.some.inj H
  go_enter Try.func70, Try.ntmps70
  go_wp2
  go_ret
  exact ⟨by first | rfl | (simp; done) | (simp [*]; done), by repeat (first | exact Drawn0.refl _ | apply Drawn0.step)⟩
 ·rw [if_neg c2] at H
  have c2b0 : (a0 == 4) = false := beq_eq_false_iff_ne.mpr c2
  have c2b1 : (a0 != 4) = true := bne_iff_ne.mpr c2
  by_cases c3 : a0 = 6
  ·rw [if_pos c3] at H
   have c3b0 : (a0 == 6) = true := beq_iff_eq.mpr c3
   have c3b1 : (a0 != 6) = false := bne_eq_false_iff_eq.mpr c3
   clear c3
   obtain rfl := Option.some.inj H
   go_enter Try.func70, Try.ntmps70
   go_wp2
   go_ret
   exact ⟨by first | rfl | (simp; done) | (simp [*]; done), by repeat (first | exact Drawn0.refl _ | apply Drawn0.step)⟩
  ·rw [if_neg c3] at H
   have c3b0 : (a0 == 6) = false := beq_eq_false_iff_ne.mpr c3
   have c3b1 : (a0 != 6) = true := bne_iff_ne.mpr c3
   by_cases c4 : a0 = 5
   ·rw [if_pos c4] at H
    have c4b0 : (a0 == 5) = true := beq_iff_eq.mpr c4
    have c4b1 : (a0 != 5) = false := bne_eq_false_iff_eq.mpr c4
    clear c4
    obtain rfl := Option.some.inj H
    go_enter Try.func70, Try.ntmps70
    go_wp2
    go_ret
    exact ⟨by first | rfl | (simp; done) | (simp [*]; done), by repeat (first | exact Drawn0.refl _ | apply Drawn0.step)⟩
   ·rw [if_neg c4] at H
    have c4b0 : (a0 == 5) = false := beq_eq_false_iff_ne.mpr c4
    have c4b1 : (a0 != 5) = true := bne_iff_ne.mpr c4
    by_cases c5 : a0 = 8
    ·rw [if_pos c5] at H
     have c5b0 : (a0 == 8) = true := beq_iff_eq.mpr c5
     have c5b1 : (a0 != 8) = false := bne_eq_false_iff_eq.mpr c5
     clear c5
     obtain rfl := Option.some.inj H
     go_enter Try.func70, Try.ntmps70
     go_wp2
     go_ret
     exact ⟨by first | rfl | (simp; done) | (simp [*]; done), by repeat (first | exact Drawn0.refl _ | apply Drawn0.step)⟩
    ·rw [if_neg c5] at H
     have c5b0 : (a0 == 8) = false := beq_eq_false_iff_ne.mpr c5
     have c5b1 : (a0 != 8) = true := bne_iff_ne.mpr c5
     by_cases c6 : a0 = 7
     ·rw [if_pos c6] at H
      have c6b0 : (a0 == 7) = true := beq_iff_eq.mpr c6
      have c6b1 : (a0 != 7) = false := bne_eq_false_iff_eq.mpr c6
      clear c6
      obtain rfl := Option.some.inj H
      go_enter Try.func70, Try.ntmps70
      go_wp2
      go_ret
      exact ⟨by first | rfl | (simp; done) | (simp [*]; done), by repeat (first | exact Drawn0.refl _ | apply Drawn0.step)⟩
     ·rw [if_neg c6] at H
      have c6b0 : (a0 == 7) = false := beq_eq_false_iff_ne.mpr c6
      have c6b1 : (a0 != 7) = true := bne_iff_ne.mpr c6
      obtain rfl := Option.some.inj H
      go_enter Try.func70, Try.ntmps70
      go_wp2
      go_ret
      exact ⟨by first | rfl | (simp; done) | (simp [*]; done), by repeat (first | exact Drawn0.refl _ | apply Drawn0.step)⟩
end Go.Proofs.Ytjofkebiacaciaa.PAll
end
section
namespace Go.Proofs.Ytjofkebiacaciaa.PAll
open Go.RowKit Go.Proofs.YtjofkebiacaciaaW.PrintWords Go.Proofs.YtjofkebiacaciaaW.PrintLast Go.Proofs.YtjofkebiacaciaaW.PrintMore
attribute [local go_sem] max2_int min2_int max_two min_two max_three min_three max_four min_four
set_option linter.unusedVariables false
set_option linter.unusedSimpArgs false
set_option linter.all false
variable [FmtC]
def semigroupref04_part.f (k : Nat) (a0_0 : Int) (a0_1 : Int) (l0_2 : List (S24)) (a1 : Int) : Option (ByteArray) := (semigroupref04_level.f a0_0).bind fun t311 => (if t311 < a1 then ((semigroupref04_Format.f k a0_0 a0_1 l0_2).bind fun t312 => (if 1 + t312.size ≤ 9223372036854775807 then (if ((⟨#[40]⟩ : ByteArray) ++ t312).size + 1 ≤ 9223372036854775807 then (some (((⟨#[40]⟩ : ByteArray) ++ t312) ++ (⟨#[41]⟩ : ByteArray))) else (none)) else (none))) else ((semigroupref04_Format.f k a0_0 a0_1 l0_2).bind fun t313 => (some t313)))
theorem semigroupref04_part.mono : ∀ a0 a1 a2 a3 k, LeO (semigroupref04_part.f k a0 a1 a2 a3) (semigroupref04_part.f (k + 1) a0 a1 a2 a3) := by
 intro a0 a1 a2 a3 k
 unfold semigroupref04_part.f
 repeat' first
   | (with_reducible exact semigroupref04_Format.mono _ _ _ _)
   | (with_reducible exact LeO.refl _)
   | (with_reducible exact LeO.none _)
   | (with_reducible refine LeO.ite ?_ ?_)
   | (with_reducible refine LeO.bind ?_ (fun _ => ?_))
   | exact semigroupref04_Format.mono _ _ _ _
   | exact LeO.none _
   | refine LeO.ite ?_ ?_
   | refine LeO.bind ?_ (fun _ => ?_)
set_option maxHeartbeats 8000000 in
set_option maxRecDepth 100000 in
theorem semigroupref04_part.calls (k : Nat) (a0_0 : Int) (a0_1 : Int) (A0_2 : Option Addr) (c0_2 : Nat) (l0_2 : List (S24)) (a1 : Int) (r : ByteArray) (w : World) (hr0_2 : Kd.C k24 w A0_2 l0_2.length l0_2) (hc0_2 : l0_2.length ≤ c0_2) (h : semigroupref04_part.f k a0_0 a0_1 l0_2 a1 = some r) :
  Calls Try.prog 48 #[.agg #[.int .i64 a0_0, .int .i64 a0_1, .slice A0_2 l0_2.length c0_2], .int .i64 a1] w fun e w' => e = .returned (.string r) ∧ Below w.heap.size w w' := by
 have hu24 := Try.underlying24
 have HR0_2 := Aside0.mk hr0_2
 have HC0_2 := Aside0.mk hc0_2
 clear hr0_2 hc0_2
 have HB := Aside0.mk (Below.refl w.heap.size w)
 have H : ((semigroupref04_level.f a0_0).bind fun t311 => (if t311 < a1 then ((semigroupref04_Format.f k a0_0 a0_1 l0_2).bind fun t312 => (if 1 + t312.size ≤ 9223372036854775807 then (if ((⟨#[40]⟩ : ByteArray) ++ t312).size + 1 ≤ 9223372036854775807 then (some (((⟨#[40]⟩ : ByteArray) ++ t312) ++ (⟨#[41]⟩ : ByteArray))) else (none)) else (none))) else ((semigroupref04_Format.f k a0_0 a0_1 l0_2).bind fun t313 => (some t313)))) = some r := h
 clear h
 replace H := Option.bind_eq_some_iff.mp H
 obtain ⟨t311, A30, H⟩ := H
 replace H : (if t311 < a1 then ((semigroupref04_Format.f k a0_0 a0_1 l0_2).bind fun t312 => (if 1 + t312.size ≤ 9223372036854775807 then (if ((⟨#[40]⟩ : ByteArray) ++ t312).size + 1 ≤ 9223372036854775807 then (some (((⟨#[40]⟩ : ByteArray) ++ t312) ++ (⟨#[41]⟩ : ByteArray))) else (none)) else (none))) else ((semigroupref04_Format.f k a0_0 a0_1 l0_2).bind fun t313 => (some t313))) = some r := H
 have A3 := Aside0.mk A30
 clear A30
 by_cases c4 : t311 < a1
 ·rw [if_pos c4] at H
  have c4b0 : decide (t311 < a1) = true := decide_eq_true c4
  clear c4
  replace H := Option.bind_eq_some_iff.mp H
  obtain ⟨t312, A50, H⟩ := H
  replace H : (if 1 + t312.size ≤ 9223372036854775807 then (if ((⟨#[40]⟩ : ByteArray) ++ t312).size + 1 ≤ 9223372036854775807 then (some (((⟨#[40]⟩ : ByteArray) ++ t312) ++ (⟨#[41]⟩ : ByteArray))) else (none)) else (none)) = some r := H
  have A5 := Aside0.mk A50
  clear A50
  by_cases c6 : 1 + t312.size ≤ 9223372036854775807
  ·rw [if_pos c6] at H
   have c6b0 := eq_true c6
   have c6b1 : decide (1 + t312.size ≤ 9223372036854775807) = true := decide_eq_true c6
   try have c6b2 : (9223372036854775807 < 1 + t312.size) = False := eq_false (Nat.not_lt.2 c6)
   by_cases c7 : ((⟨#[40]⟩ : ByteArray) ++ t312).size + 1 ≤ 9223372036854775807
   ·rw [if_pos c7] at H
    have c7b0 := eq_true c7
    have c7b1 : decide (((⟨#[40]⟩ : ByteArray) ++ t312).size + 1 ≤ 9223372036854775807) = true := decide_eq_true c7
    try have c7b2 : (9223372036854775807 < ((⟨#[40]⟩ : ByteArray) ++ t312).size + 1) = False := eq_false (Nat.not_lt.2 c7)
    try have c7b3 : (9223372036854775807 < 1 + t312.size + 1) = False := eq_false (Nat.not_lt.2 (by have h_ := c7; first | (simp only [ByteArray.size_append] at h_; exact h_) | (simpa [ByteArray.size_append] using h_)))
    obtain rfl := Option.some.inj H
    go_enter Try.func48, Try.ntmps48
    go_wp2_with (first | ((with_reducible refine gate_dst (N := 2) rfl ?_); refine box_event ?hg (N := 2) ?hd (cs := #[.int .i64 a0_0, .int .i64 a0_1, .slice A0_2 l0_2.length c0_2]) (t := 24) ?hr ?_; (case hd => rfl); (case hg => rfl); (case hr => first | (go_simp; done) | (go_simp; rfl)); intro gb310 hg w8 hbox hb; have n0_ := Aside0.mk (below_step (bB) hb); have n1_ := Aside0.mk (hbox); have n2_ := Aside0.mk ((by rw [hg]; exact (below_size (bB)) : w.heap.size ≤ gb310)); have n3_ := Aside0.mk ((by rw [hg]; exact (below_size (bB)) : w.heap.size ≤ gb310)); clear HB; have HB := n0_; have BK310 := n1_; have GW310 := n2_; have GE310 := n3_; clear n0_ n1_ n2_ n3_; clear hb hbox hg; have hcz9_0 : w8.cell? ⟨gb310, 0, none⟩ = some (.int .i64 a0_0) := (blk_cell BK310.out 0).trans rfl; have hcz9_1 : w8.cell? ⟨gb310, 1, none⟩ = some (.int .i64 a0_1) := (blk_cell BK310.out 1).trans rfl; have hcz9_2 : w8.cell? ⟨gb310, 2, none⟩ = some (.slice A0_2 l0_2.length c0_2) := (blk_cell BK310.out 2).trans rfl; have hfz9_0 := blk_frozen BK310.out 0; have hfz9_1 := blk_frozen BK310.out 1; have hfz9_2 := blk_frozen BK310.out 2) | ((with_reducible refine gate_callee (f := 70) rfl ?_); refine goesL_ (some 7) rfl rfl Try.func70 (by kernel_rfl) rfl #[.int .i64 a0_0] rfl (by (try simp only [List.map_toArray, List.map_cons, List.map_nil]); first | done | rfl | (simp only [List.length_drop, List.length_take]; rfl) | (simp only [Int.ofNat_lt, Int.ofNat_le]; rfl)) ?_; (with_reducible refine (semigroupref04_level.calls a0_0 t311 _ A3.out).mono ?_); rintro e w' ⟨rfl, ⟨nd, rfl⟩⟩; refine ⟨_, rfl, ?_⟩) | ((with_reducible refine gate_callee (f := 20) rfl ?_); refine goesL_ (some 11) rfl rfl Try.func20 (by kernel_rfl) rfl #[.agg #[.int .i64 a0_0, .int .i64 a0_1, .slice A0_2 l0_2.length c0_2]] rfl (by (try simp only [List.map_toArray, List.map_cons, List.map_nil]); first | done | rfl | (simp only [List.length_drop, List.length_take]; rfl) | (simp only [Int.ofNat_lt, Int.ofNat_le]; rfl)) ?_; (with_reducible refine (semigroupref04_Format.calls k a0_0 a0_1 _ _ l0_2 t312 _ ?side1 ?side2 A5.out).mono ?_); (case side1 => repeat (first | exact (Kd.C_below HR0_2.out (bB)) | (with_reducible refine Kd.C_alloc ?_ _) | (with_reducible refine Kd.C_drewN ?_ _) | (with_reducible refine Kd.C_drew ?_))); (case side2 => exact HC0_2.out); rintro e w10 ⟨rfl, hb⟩; refine ⟨_, rfl, ?_⟩; have n0_ := Aside0.mk (blk_below (g := gb310) (o := .cells #[.int .i64 a0_0, .int .i64 a0_1, .slice A0_2 l0_2.length c0_2] 24 (0, 0)) (bK) hb); have n1_ := Aside0.mk (below_step (bB) hb); clear BK310; clear HB; have BK310 := n0_; have HB := n1_; clear n0_ n1_; (try clear hb); (try clear hb2); (try clear hk); (try clear hi)))
    go_ret
    exact ⟨by first | rfl | (simp [errW_none, errW_some] <;> rfl) | (simp [*, errW_none, errW_some] <;> rfl), bB⟩
   ·rw [if_neg c7] at H
    exact absurd H (by simp)
  ·rw [if_neg c6] at H
   exact absurd H (by simp)
 ·rw [if_neg c4] at H
  have c4b0 : decide (t311 < a1) = false := decide_eq_false c4
  clear c4
  replace H := Option.bind_eq_some_iff.mp H
  obtain ⟨t313, A110, H⟩ := H
  replace H : (some t313) = some r := H
  have A11 := Aside0.mk A110
  clear A110
  obtain rfl := Option.some.inj H
  go_enter Try.func48, Try.ntmps48
  go_wp2_with (first | ((with_reducible refine gate_dst (N := 2) rfl ?_); refine box_event ?hg (N := 2) ?hd (cs := #[.int .i64 a0_0, .int .i64 a0_1, .slice A0_2 l0_2.length c0_2]) (t := 24) ?hr ?_; (case hd => rfl); (case hg => rfl); (case hr => first | (go_simp; done) | (go_simp; rfl)); intro gb310 hg w12 hbox hb; have n0_ := Aside0.mk (below_step (bB) hb); have n1_ := Aside0.mk (hbox); have n2_ := Aside0.mk ((by rw [hg]; exact (below_size (bB)) : w.heap.size ≤ gb310)); have n3_ := Aside0.mk ((by rw [hg]; exact (below_size (bB)) : w.heap.size ≤ gb310)); clear HB; have HB := n0_; have BK310 := n1_; have GW310 := n2_; have GE310 := n3_; clear n0_ n1_ n2_ n3_; clear hb hbox hg; have hcz13_0 : w12.cell? ⟨gb310, 0, none⟩ = some (.int .i64 a0_0) := (blk_cell BK310.out 0).trans rfl; have hcz13_1 : w12.cell? ⟨gb310, 1, none⟩ = some (.int .i64 a0_1) := (blk_cell BK310.out 1).trans rfl; have hcz13_2 : w12.cell? ⟨gb310, 2, none⟩ = some (.slice A0_2 l0_2.length c0_2) := (blk_cell BK310.out 2).trans rfl; have hfz13_0 := blk_frozen BK310.out 0; have hfz13_1 := blk_frozen BK310.out 1; have hfz13_2 := blk_frozen BK310.out 2) | ((with_reducible refine gate_callee (f := 70) rfl ?_); refine goesL_ (some 7) rfl rfl Try.func70 (by kernel_rfl) rfl #[.int .i64 a0_0] rfl (by (try simp only [List.map_toArray, List.map_cons, List.map_nil]); first | done | rfl | (simp only [List.length_drop, List.length_take]; rfl) | (simp only [Int.ofNat_lt, Int.ofNat_le]; rfl)) ?_; (with_reducible refine (semigroupref04_level.calls a0_0 t311 _ A3.out).mono ?_); rintro e w' ⟨rfl, ⟨nd, rfl⟩⟩; refine ⟨_, rfl, ?_⟩) | ((with_reducible refine gate_callee (f := 20) rfl ?_); refine goesL_ (some 15) rfl rfl Try.func20 (by kernel_rfl) rfl #[.agg #[.int .i64 a0_0, .int .i64 a0_1, .slice A0_2 l0_2.length c0_2]] rfl (by (try simp only [List.map_toArray, List.map_cons, List.map_nil]); first | done | rfl | (simp only [List.length_drop, List.length_take]; rfl) | (simp only [Int.ofNat_lt, Int.ofNat_le]; rfl)) ?_; (with_reducible refine (semigroupref04_Format.calls k a0_0 a0_1 _ _ l0_2 t313 _ ?side1 ?side2 A11.out).mono ?_); (case side1 => repeat (first | exact (Kd.C_below HR0_2.out (bB)) | (with_reducible refine Kd.C_alloc ?_ _) | (with_reducible refine Kd.C_drewN ?_ _) | (with_reducible refine Kd.C_drew ?_))); (case side2 => exact HC0_2.out); rintro e w14 ⟨rfl, hb⟩; refine ⟨_, rfl, ?_⟩; have n0_ := Aside0.mk (blk_below (g := gb310) (o := .cells #[.int .i64 a0_0, .int .i64 a0_1, .slice A0_2 l0_2.length c0_2] 24 (0, 0)) (bK) hb); have n1_ := Aside0.mk (below_step (bB) hb); clear BK310; clear HB; have BK310 := n0_; have HB := n1_; clear n0_ n1_; (try clear hb); (try clear hb2); (try clear hk); (try clear hi)))
  go_ret
  exact ⟨by first | rfl | (simp [errW_none, errW_some] <;> rfl) | (simp [*, errW_none, errW_some] <;> rfl), bB⟩
end Go.Proofs.Ytjofkebiacaciaa.PAll
end
section
namespace Go.Proofs.Ytjofkebiacaciaa.PAll
open Go.RowKit Go.Proofs.YtjofkebiacaciaaW.PrintWords Go.Proofs.YtjofkebiacaciaaW.PrintLast Go.Proofs.YtjofkebiacaciaaW.PrintMore
attribute [local go_sem] max2_int min2_int max_two min_two max_three min_three max_four min_four
set_option linter.unusedVariables false
set_option linter.unusedSimpArgs false
set_option linter.all false
variable [FmtC]
mutual
def semigroupref04_FormatS.j0 : Nat → ByteArray → ByteArray → Int → Int → Int → List (S24) → Option (ByteArray)
 | 0, _, _, _, _, _, _ => none
 | k + 1, x3, x4, x5, x102000, x102001, x102002 => semigroupref04_FormatS.l0 k x3 x4 x5 x102002 (x102002.length : Int) 0
def semigroupref04_FormatS.l0 : Nat → ByteArray → ByteArray → Int → List (S24) → Int → Int → Option (ByteArray)
 | 0, _, _, _, _, _, _ => none
 | k + 1, x3, x4, x5, x43, x44, x45 => if x45 < x44 then (if 0 ≤ x45 then (if x45 < (x43.length : Int) then (if x45 > 0 then (if x3.size + x4.size ≤ 9223372036854775807 then ((semigroupref04_part.f k ((rd_T24 x43 x45).f0) ((rd_T24 x43 x45).f1) ((rd_T24 x43 x45).f2) x5).bind fun t111 => (if (x3 ++ x4).size + t111.size ≤ 9223372036854775807 then (semigroupref04_FormatS.l0 k ((x3 ++ x4) ++ t111) x4 x5 x43 x44 (wrap64 (x45 + 1))) else (none))) else (none)) else ((semigroupref04_part.f k ((rd_T24 x43 x45).f0) ((rd_T24 x43 x45).f1) ((rd_T24 x43 x45).f2) x5).bind fun t112 => (if x3.size + t112.size ≤ 9223372036854775807 then (semigroupref04_FormatS.l0 k (x3 ++ t112) x4 x5 x43 x44 (wrap64 (x45 + 1))) else (none)))) else (none)) else (none)) else (some x3)
end
def semigroupref04_FormatS.f (k : Nat) (a0_0 : Int) (a0_1 : Int) (l0_2 : List (S24)) : Option (ByteArray) := if a0_0 = 1 then (some (⟨#[48]⟩ : ByteArray)) else (if a0_0 = 2 then (some (⟨#[49]⟩ : ByteArray)) else (if a0_0 = 3 then (some (strOfNums (([(wrap64 (97 + a0_1)) % 256] : List Int)))) else (if a0_0 = 8 then (if 0 < (l0_2.length : Int) then ((semigroupref04_part.f k ((rd_T24 l0_2 0).f0) ((rd_T24 l0_2 0).f1) ((rd_T24 l0_2 0).f2) 4).bind fun t106 => (if 1 + t106.size ≤ 9223372036854775807 then (some ((⟨#[33]⟩ : ByteArray) ++ t106)) else (none))) else (none)) else (if a0_0 = 7 then (if 0 < (l0_2.length : Int) then ((semigroupref04_part.f k ((rd_T24 l0_2 0).f0) ((rd_T24 l0_2 0).f1) ((rd_T24 l0_2 0).f2) 5).bind fun t108 => (if t108.size + 1 ≤ 9223372036854775807 then (some (t108 ++ (⟨#[42]⟩ : ByteArray))) else (none))) else (none)) else (if a0_0 = 4 then (semigroupref04_FormatS.j0 k (⟨#[]⟩ : ByteArray) (⟨#[124]⟩ : ByteArray) 2 a0_0 a0_1 l0_2) else (if a0_0 = 6 then (semigroupref04_FormatS.j0 k (⟨#[]⟩ : ByteArray) (⟨#[38]⟩ : ByteArray) 3 a0_0 a0_1 l0_2) else (semigroupref04_FormatS.j0 k (⟨#[]⟩ : ByteArray) (⟨#[]⟩ : ByteArray) 4 a0_0 a0_1 l0_2)))))))
theorem semigroupref04_FormatS.mono_l : ∀ k, (∀ y0 y1 y2 y3 y4 y5, LeO (semigroupref04_FormatS.j0 k y0 y1 y2 y3 y4 y5) (semigroupref04_FormatS.j0 (k + 1) y0 y1 y2 y3 y4 y5)) ∧ (∀ y0 y1 y2 y3 y4 y5, LeO (semigroupref04_FormatS.l0 k y0 y1 y2 y3 y4 y5) (semigroupref04_FormatS.l0 (k + 1) y0 y1 y2 y3 y4 y5))
 | 0 => ⟨fun _ _ _ _ _ _ r h => by simp [semigroupref04_FormatS.j0] at h, fun _ _ _ _ _ _ r h => by simp [semigroupref04_FormatS.l0] at h⟩
 | k + 1 => by
  obtain ⟨ih0, ih1⟩ := semigroupref04_FormatS.mono_l k
  refine ⟨?_, ?_⟩
  ·intro y0 y1 y2 y3 y4 y5
   unfold semigroupref04_FormatS.j0
   repeat' first
   | (with_reducible exact ih0 _ _ _ _ _ _)
   | (with_reducible exact ih1 _ _ _ _ _ _)
   | (with_reducible exact semigroupref04_part.mono _ _ _ _ _)
   | (with_reducible exact LeO.refl _)
   | (with_reducible exact LeO.none _)
   | (with_reducible refine LeO.ite ?_ ?_)
   | (with_reducible refine LeO.bind ?_ (fun _ => ?_))
   | exact ih0 _ _ _ _ _ _
   | exact ih1 _ _ _ _ _ _
   | exact semigroupref04_part.mono _ _ _ _ _
   | exact LeO.none _
   | refine LeO.ite ?_ ?_
   | refine LeO.bind ?_ (fun _ => ?_)
  ·intro y0 y1 y2 y3 y4 y5
   unfold semigroupref04_FormatS.l0
   repeat' first
   | (with_reducible exact ih0 _ _ _ _ _ _)
   | (with_reducible exact ih1 _ _ _ _ _ _)
   | (with_reducible exact semigroupref04_part.mono _ _ _ _ _)
   | (with_reducible exact LeO.refl _)
   | (with_reducible exact LeO.none _)
   | (with_reducible refine LeO.ite ?_ ?_)
   | (with_reducible refine LeO.bind ?_ (fun _ => ?_))
   | exact ih0 _ _ _ _ _ _
   | exact ih1 _ _ _ _ _ _
   | exact semigroupref04_part.mono _ _ _ _ _
   | exact LeO.none _
   | refine LeO.ite ?_ ?_
   | refine LeO.bind ?_ (fun _ => ?_)
theorem semigroupref04_FormatS.mono : ∀ a0 a1 a2 k, LeO (semigroupref04_FormatS.f k a0 a1 a2) (semigroupref04_FormatS.f (k + 1) a0 a1 a2) := by
 intro a0 a1 a2 k
 obtain ⟨ih0, ih1⟩ := semigroupref04_FormatS.mono_l k
 unfold semigroupref04_FormatS.f
 repeat' first
   | (with_reducible exact ih0 _ _ _ _ _ _)
   | (with_reducible exact ih1 _ _ _ _ _ _)
   | (with_reducible exact semigroupref04_part.mono _ _ _ _ _)
   | (with_reducible exact LeO.refl _)
   | (with_reducible exact LeO.none _)
   | (with_reducible refine LeO.ite ?_ ?_)
   | (with_reducible refine LeO.bind ?_ (fun _ => ?_))
   | exact ih0 _ _ _ _ _ _
   | exact ih1 _ _ _ _ _ _
   | exact semigroupref04_part.mono _ _ _ _ _
   | exact LeO.none _
   | refine LeO.ite ?_ ?_
   | refine LeO.bind ?_ (fun _ => ?_)
set_option maxHeartbeats 8000000 in
set_option maxRecDepth 100000 in
theorem semigroupref04_FormatS.calls (k : Nat) (a0_0 : Int) (a0_1 : Int) (A0_2 : Option Addr) (c0_2 : Nat) (l0_2 : List (S24)) (r : ByteArray) (w : World) (hr0_2 : Kd.C k24 w A0_2 l0_2.length l0_2) (hc0_2 : l0_2.length ≤ c0_2) (h : semigroupref04_FormatS.f k a0_0 a0_1 l0_2 = some r) :
  Calls Try.prog 20 #[.agg #[.int .i64 a0_0, .int .i64 a0_1, .slice A0_2 l0_2.length c0_2]] w fun e w' => e = .returned (.string r) ∧ Below w.heap.size w w' := by
 have hu24 := Try.underlying24
 have HR0_2 := Aside0.mk hr0_2
 have HC0_2 := Aside0.mk hc0_2
 clear hr0_2 hc0_2
 have HB := Aside0.mk (Below.refl w.heap.size w)
 have H : (if a0_0 = 1 then (some (⟨#[48]⟩ : ByteArray)) else (if a0_0 = 2 then (some (⟨#[49]⟩ : ByteArray)) else (if a0_0 = 3 then (some (strOfNums (([(wrap64 (97 + a0_1)) % 256] : List Int)))) else (if a0_0 = 8 then (if 0 < (l0_2.length : Int) then ((semigroupref04_part.f k ((rd_T24 l0_2 0).f0) ((rd_T24 l0_2 0).f1) ((rd_T24 l0_2 0).f2) 4).bind fun t106 => (if 1 + t106.size ≤ 9223372036854775807 then (some ((⟨#[33]⟩ : ByteArray) ++ t106)) else (none))) else (none)) else (if a0_0 = 7 then (if 0 < (l0_2.length : Int) then ((semigroupref04_part.f k ((rd_T24 l0_2 0).f0) ((rd_T24 l0_2 0).f1) ((rd_T24 l0_2 0).f2) 5).bind fun t108 => (if t108.size + 1 ≤ 9223372036854775807 then (some (t108 ++ (⟨#[42]⟩ : ByteArray))) else (none))) else (none)) else (if a0_0 = 4 then (semigroupref04_FormatS.j0 k (⟨#[]⟩ : ByteArray) (⟨#[124]⟩ : ByteArray) 2 a0_0 a0_1 l0_2) else (if a0_0 = 6 then (semigroupref04_FormatS.j0 k (⟨#[]⟩ : ByteArray) (⟨#[38]⟩ : ByteArray) 3 a0_0 a0_1 l0_2) else (semigroupref04_FormatS.j0 k (⟨#[]⟩ : ByteArray) (⟨#[]⟩ : ByteArray) 4 a0_0 a0_1 l0_2)))))))) = some r := h
 clear h
 have HC2 := Aside0.mk H
 clear H
 go_enter Try.func20, Try.ntmps20
 go_upto_block 0 with (first | ((with_reducible refine gate_dst (N := 1) rfl ?_); refine box_event ?hg (N := 1) ?hd (cs := #[.int .i64 a0_0, .int .i64 a0_1, .slice A0_2 l0_2.length c0_2]) (t := 24) ?hr ?_; (case hd => rfl); (case hg => rfl); (case hr => first | (go_simp; done) | (go_simp; rfl)); intro gb101 hg w3 hbox hb; have n0_ := Aside0.mk (below_step (bB) hb); have n1_ := Aside0.mk (hbox); have n2_ := Aside0.mk ((by rw [hg]; exact (below_size (bB)) : w.heap.size ≤ gb101)); have n3_ := Aside0.mk ((by rw [hg]; exact (below_size (bB)) : w.heap.size ≤ gb101)); clear HB; have HB := n0_; have BK101 := n1_; have GW101 := n2_; have GE101 := n3_; clear n0_ n1_ n2_ n3_; clear hb hbox hg; have hcz4_0 : w3.cell? ⟨gb101, 0, none⟩ = some (.int .i64 a0_0) := (blk_cell BK101.out 0).trans rfl; have hcz4_1 : w3.cell? ⟨gb101, 1, none⟩ = some (.int .i64 a0_1) := (blk_cell BK101.out 1).trans rfl; have hcz4_2 : w3.cell? ⟨gb101, 2, none⟩ = some (.slice A0_2 l0_2.length c0_2) := (blk_cell BK101.out 2).trans rfl; have hfz4_0 := blk_frozen BK101.out 0; have hfz4_1 := blk_frozen BK101.out 1; have hfz4_2 := blk_frozen BK101.out 2))
 (try simp only [Act.put, List.setIfInBounds_toArray, List.set_cons_zero, List.set_cons_succ])
 go_cut [4, 5] (fun v4 v5 wc => ∃ (kq : Nat) (x4_1 : ByteArray) (x5_1 : Int), v4 = .string x4_1 ∧ v5 = .int .i64 x5_1 ∧ Aside0 (semigroupref04_FormatS.j0 kq (⟨#[]⟩ : ByteArray) x4_1 x5_1 a0_0 a0_1 l0_2 = some r) ∧ Aside0 (kq ≤ k) ∧ Aside0 (wc.heap[gb101]? = some (.cells #[.int .i64 a0_0, .int .i64 a0_1, (.slice A0_2 l0_2.length c0_2)] 24 (0, 0))) ∧ Aside0 (Below w.heap.size w wc))
 case first =>
  have H := HC2.out
  clear HC2
  by_cases c5 : a0_0 = 1
  ·rw [if_pos c5] at H
   have c5b0 : (a0_0 == 1) = true := beq_iff_eq.mpr c5
   have c5b1 : (a0_0 != 1) = false := bne_eq_false_iff_eq.mpr c5
   clear c5
   (first | rw [c5b0] | (simp only [i64_w, i32_w]; rw [c5b0]) | skip)
   obtain rfl := Option.some.inj H
   go_wp2
   go_ret
   exact ⟨by first | rfl | (simp [errW_none, errW_some] <;> rfl) | (simp [*, errW_none, errW_some] <;> rfl), bB⟩
  ·rw [if_neg c5] at H
   have c5b0 : (a0_0 == 1) = false := beq_eq_false_iff_ne.mpr c5
   have c5b1 : (a0_0 != 1) = true := bne_iff_ne.mpr c5
   (first | rw [c5b0] | (simp only [i64_w, i32_w]; rw [c5b0]) | skip)
   by_cases c6 : a0_0 = 2
   ·rw [if_pos c6] at H
    have c6b0 : (a0_0 == 2) = true := beq_iff_eq.mpr c6
    have c6b1 : (a0_0 != 2) = false := bne_eq_false_iff_eq.mpr c6
    clear c6
    obtain rfl := Option.some.inj H
    go_wp2
    go_ret
    exact ⟨by first | rfl | (simp [errW_none, errW_some] <;> rfl) | (simp [*, errW_none, errW_some] <;> rfl), bB⟩
   ·rw [if_neg c6] at H
    have c6b0 : (a0_0 == 2) = false := beq_eq_false_iff_ne.mpr c6
    have c6b1 : (a0_0 != 2) = true := bne_iff_ne.mpr c6
    by_cases c7 : a0_0 = 3
    ·rw [if_pos c7] at H
     have c7b0 : (a0_0 == 3) = true := beq_iff_eq.mpr c7
     have c7b1 : (a0_0 != 3) = false := bne_eq_false_iff_eq.mpr c7
     clear c7
     obtain ⟨y102, hy102⟩ : ∃ y_ : List Int, y_ = (([(wrap64 (97 + a0_1)) % 256] : List Int)) := ⟨_, rfl⟩
     replace H : (some (strOfNums y102)) = some r := by first | (rw [hy102]; with_reducible exact H) | (have H2_ := (Option.bind_some _ _).symm.trans H; rw [hy102]; with_reducible exact H2_) | (have H2_ := (Option.bind_some _ _).symm.trans H; with_reducible exact H2_) | with_reducible exact H | (rw [hy102]; exact H) | exact H
     have Ny102 := Aside0.mk hy102
     clear hy102
     obtain rfl := Option.some.inj H
     have hcz8_0 : w3.cell? ⟨gb101, 0, none⟩ = some (.int .i64 a0_0) := (blk_cell BK101.out 0).trans rfl
     have hcz8_1 : w3.cell? ⟨gb101, 1, none⟩ = some (.int .i64 a0_1) := (blk_cell BK101.out 1).trans rfl
     have hcz8_2 : w3.cell? ⟨gb101, 2, none⟩ = some (.slice A0_2 l0_2.length c0_2) := (blk_cell BK101.out 2).trans rfl
     have hfz8_0 := blk_frozen BK101.out 0
     have hfz8_1 := blk_frozen BK101.out 1
     have hfz8_2 := blk_frozen BK101.out 2
     go_wp2_with (first | ((with_reducible refine gate_dst (N := 20) rfl ?_); refine Kd.R_lit (Kd.int .u8) _ 5 ?hg (N := 20) ?hd (xs := ([(wrap64 (97 + a0_1)) % 256] : List Int)) (inner := [.int .u8 ((wrap64 (97 + a0_1)) % 256)]) (ok := fun _ => True) (okp := fun _ => True) ?hr ?hp (fun _ hk => hk) trivial (Below.refl _ _) (Nat.le_refl _) (by simp) ?_; (case hd => rfl); (case hg => rfl); (case hr => first | (go_simp; done) | (go_simp; rfl)); (case hp => exact (Reps.one (show Kd.M (Kd.int .u8) _ _ _ ((wrap64 (97 + a0_1)) % 256) [.int .u8 ((wrap64 (97 + a0_1)) % 256)] from rfl) (Reps.none _ _))); intro v103 w9 ho10 hb hg_ hnew_; clear hg_ hnew_; (first | rw [← Ny102.out] at ho10 | (simp only [Int.reduceToNat] at ho10; rw [← Ny102.out] at ho10)); have n0_ := Aside0.mk (Kd.R_lower ho10 (below_size (bB))); have n1_ := Aside0.mk (blk_below (g := gb101) (o := .cells #[.int .i64 a0_0, .int .i64 a0_1, .slice A0_2 l0_2.length c0_2] 24 (0, 0)) (bK) hb); have n2_ := Aside0.mk (below_step (bB) hb); clear BK101; clear HB; have HO104 := n0_; have BK101 := n1_; have HB := n2_; clear n0_ n1_ n2_; clear hb ho10; have hcv11 := own_string (P := Try.prog) Try.underlying43 Try.underlying5 Try.underlying9 (Kd.own_of_R HO104.out)))
     go_ret
     exact ⟨by first | rfl | (simp [errW_none, errW_some] <;> rfl) | (simp [*, errW_none, errW_some] <;> rfl), bB⟩
    ·rw [if_neg c7] at H
     have c7b0 : (a0_0 == 3) = false := beq_eq_false_iff_ne.mpr c7
     have c7b1 : (a0_0 != 3) = true := bne_iff_ne.mpr c7
     by_cases c12 : a0_0 = 8
     ·rw [if_pos c12] at H
      have c12b0 : (a0_0 == 8) = true := beq_iff_eq.mpr c12
      have c12b1 : (a0_0 != 8) = false := bne_eq_false_iff_eq.mpr c12
      clear c12
      by_cases c13 : 0 < (l0_2.length : Int)
      ·rw [if_pos c13] at H
       have c13b0 : decide (0 < (l0_2.length : Int)) = true := decide_eq_true c13
       have c13b1 : decide (0 < l0_2.length) = true := decide_eq_true (by omega)
       clear c13
       replace H := Option.bind_eq_some_iff.mp H
       obtain ⟨t106, A140, H⟩ := H
       replace H : (if 1 + t106.size ≤ 9223372036854775807 then (some ((⟨#[33]⟩ : ByteArray) ++ t106)) else (none)) = some r := H
       have A14 := Aside0.mk A140
       clear A140
       by_cases c15 : 1 + t106.size ≤ 9223372036854775807
       ·rw [if_pos c15] at H
        have c15b0 := eq_true c15
        have c15b1 : decide (1 + t106.size ≤ 9223372036854775807) = true := decide_eq_true c15
        try have c15b2 : (9223372036854775807 < 1 + t106.size) = False := eq_false (Nat.not_lt.2 c15)
        obtain rfl := Option.some.inj H
        have hcz16_0 : w3.cell? ⟨gb101, 0, none⟩ = some (.int .i64 a0_0) := (blk_cell BK101.out 0).trans rfl
        have hcz16_1 : w3.cell? ⟨gb101, 1, none⟩ = some (.int .i64 a0_1) := (blk_cell BK101.out 1).trans rfl
        have hcz16_2 : w3.cell? ⟨gb101, 2, none⟩ = some (.slice A0_2 l0_2.length c0_2) := (blk_cell BK101.out 2).trans rfl
        have hfz16_0 := blk_frozen BK101.out 0
        have hfz16_1 := blk_frozen BK101.out 1
        have hfz16_2 := blk_frozen BK101.out 2
        have p105 : 0 ≤ (0 : Int) := (by omega)
        have q105 : 0 < (l0_2.length : Int) := of_decide_eq_true (by first | (with_reducible assumption) | assumption)
        obtain ⟨ad105, A105_2, c105_2, e105, hx105_0, hx105_1, hx105_2, hl105_2, hi105_2⟩ := at_T24 HR0_2.out 0 p105 q105
        cases e105
        have qi105 : (0 < l0_2.length) = True := eq_true (by omega)
        (try rw [show ((0 : Int)).toNat = 0 from rfl] at hx105_0)
        (try rw [show 0 * 3 = 0 from rfl] at hx105_0)
        (try rw [Addr.add_zero'] at hx105_0)
        (try rw [show ((0 : Int)).toNat = 0 from rfl] at hx105_1)
        (try rw [show 0 * 3 = 0 from rfl] at hx105_1)
        (try rw [Addr.add_zero'] at hx105_1)
        (try rw [show ((0 : Int)).toNat = 0 from rfl] at hx105_2)
        (try rw [show 0 * 3 = 0 from rfl] at hx105_2)
        (try rw [Addr.add_zero'] at hx105_2)
        replace hx105_0 := (HB.out.cell (World.block_lt_of_cell? w _ hx105_0)).trans hx105_0
        replace hx105_1 := (HB.out.cell (World.block_lt_of_cell? w _ hx105_1)).trans hx105_1
        replace hx105_2 := (HB.out.cell (World.block_lt_of_cell? w _ hx105_2)).trans hx105_2
        have HR105_2 := Aside0.mk hi105_2
        have HC105_2 := Aside0.mk hl105_2
        clear hi105_2 hl105_2
        replace p105 := eq_true p105
        replace q105 := eq_true q105
        go_wp2_with (first | ((with_reducible refine gate_callee (f := 48) rfl ?_); refine goesL_ (some 28) rfl rfl Try.func48 (by kernel_rfl) rfl #[.agg #[.int .i64 ((rd_T24 l0_2 0).f0), .int .i64 ((rd_T24 l0_2 0).f1), .slice A105_2 ((rd_T24 l0_2 0).f2).length c105_2], .int .i64 4] rfl (by (try simp only [List.map_toArray, List.map_cons, List.map_nil]); first | done | rfl | (simp only [List.length_drop, List.length_take]; rfl) | (simp only [Int.ofNat_lt, Int.ofNat_le]; rfl)) ?_; (with_reducible refine (semigroupref04_part.calls k ((rd_T24 l0_2 0).f0) ((rd_T24 l0_2 0).f1) _ _ ((rd_T24 l0_2 0).f2) 4 t106 _ ?side1 ?side2 A14.out).mono ?_); (case side1 => repeat (first | exact (Kd.C_below HR105_2.out HB.out) | (with_reducible refine Kd.C_alloc ?_ _) | (with_reducible refine Kd.C_drewN ?_ _) | (with_reducible refine Kd.C_drew ?_))); (case side2 => exact HC105_2.out); rintro e w17 ⟨rfl, hb⟩; refine ⟨_, rfl, ?_⟩; have n0_ := Aside0.mk (blk_below (g := gb101) (o := .cells #[.int .i64 a0_0, .int .i64 a0_1, .slice (some ad105) l0_2.length c0_2] 24 (0, 0)) (bK) hb); have n1_ := Aside0.mk (below_step (bB) hb); clear BK101; clear HB; have BK101 := n0_; have HB := n1_; clear n0_ n1_; (try clear hb); (try clear hb2); (try clear hk); (try clear hi)))
        go_ret
        exact ⟨by first | rfl | (simp [errW_none, errW_some] <;> rfl) | (simp [*, errW_none, errW_some] <;> rfl), bB⟩
       ·rw [if_neg c15] at H
        exact absurd H (by simp)
      ·rw [if_neg c13] at H
       exact absurd H (by simp)
     ·rw [if_neg c12] at H
      have c12b0 : (a0_0 == 8) = false := beq_eq_false_iff_ne.mpr c12
      have c12b1 : (a0_0 != 8) = true := bne_iff_ne.mpr c12
      by_cases c18 : a0_0 = 7
      ·rw [if_pos c18] at H
       have c18b0 : (a0_0 == 7) = true := beq_iff_eq.mpr c18
       have c18b1 : (a0_0 != 7) = false := bne_eq_false_iff_eq.mpr c18
       clear c18
       by_cases c19 : 0 < (l0_2.length : Int)
       ·rw [if_pos c19] at H
        have c19b0 : decide (0 < (l0_2.length : Int)) = true := decide_eq_true c19
        have c19b1 : decide (0 < l0_2.length) = true := decide_eq_true (by omega)
        clear c19
        replace H := Option.bind_eq_some_iff.mp H
        obtain ⟨t108, A200, H⟩ := H
        replace H : (if t108.size + 1 ≤ 9223372036854775807 then (some (t108 ++ (⟨#[42]⟩ : ByteArray))) else (none)) = some r := H
        have A20 := Aside0.mk A200
        clear A200
        by_cases c21 : t108.size + 1 ≤ 9223372036854775807
        ·rw [if_pos c21] at H
         have c21b0 := eq_true c21
         have c21b1 : decide (t108.size + 1 ≤ 9223372036854775807) = true := decide_eq_true c21
         try have c21b2 : (9223372036854775807 < t108.size + 1) = False := eq_false (Nat.not_lt.2 c21)
         obtain rfl := Option.some.inj H
         have hcz22_0 : w3.cell? ⟨gb101, 0, none⟩ = some (.int .i64 a0_0) := (blk_cell BK101.out 0).trans rfl
         have hcz22_1 : w3.cell? ⟨gb101, 1, none⟩ = some (.int .i64 a0_1) := (blk_cell BK101.out 1).trans rfl
         have hcz22_2 : w3.cell? ⟨gb101, 2, none⟩ = some (.slice A0_2 l0_2.length c0_2) := (blk_cell BK101.out 2).trans rfl
         have hfz22_0 := blk_frozen BK101.out 0
         have hfz22_1 := blk_frozen BK101.out 1
         have hfz22_2 := blk_frozen BK101.out 2
         have p107 : 0 ≤ (0 : Int) := (by omega)
         have q107 : 0 < (l0_2.length : Int) := of_decide_eq_true (by first | (with_reducible assumption) | assumption)
         obtain ⟨ad107, A107_2, c107_2, e107, hx107_0, hx107_1, hx107_2, hl107_2, hi107_2⟩ := at_T24 HR0_2.out 0 p107 q107
         cases e107
         have qi107 : (0 < l0_2.length) = True := eq_true (by omega)
         (try rw [show ((0 : Int)).toNat = 0 from rfl] at hx107_0)
         (try rw [show 0 * 3 = 0 from rfl] at hx107_0)
         (try rw [Addr.add_zero'] at hx107_0)
         (try rw [show ((0 : Int)).toNat = 0 from rfl] at hx107_1)
         (try rw [show 0 * 3 = 0 from rfl] at hx107_1)
         (try rw [Addr.add_zero'] at hx107_1)
         (try rw [show ((0 : Int)).toNat = 0 from rfl] at hx107_2)
         (try rw [show 0 * 3 = 0 from rfl] at hx107_2)
         (try rw [Addr.add_zero'] at hx107_2)
         replace hx107_0 := (HB.out.cell (World.block_lt_of_cell? w _ hx107_0)).trans hx107_0
         replace hx107_1 := (HB.out.cell (World.block_lt_of_cell? w _ hx107_1)).trans hx107_1
         replace hx107_2 := (HB.out.cell (World.block_lt_of_cell? w _ hx107_2)).trans hx107_2
         have HR107_2 := Aside0.mk hi107_2
         have HC107_2 := Aside0.mk hl107_2
         clear hi107_2 hl107_2
         replace p107 := eq_true p107
         replace q107 := eq_true q107
         go_wp2_with (first | ((with_reducible refine gate_callee (f := 48) rfl ?_); refine goesL_ (some 36) rfl rfl Try.func48 (by kernel_rfl) rfl #[.agg #[.int .i64 ((rd_T24 l0_2 0).f0), .int .i64 ((rd_T24 l0_2 0).f1), .slice A107_2 ((rd_T24 l0_2 0).f2).length c107_2], .int .i64 5] rfl (by (try simp only [List.map_toArray, List.map_cons, List.map_nil]); first | done | rfl | (simp only [List.length_drop, List.length_take]; rfl) | (simp only [Int.ofNat_lt, Int.ofNat_le]; rfl)) ?_; (with_reducible refine (semigroupref04_part.calls k ((rd_T24 l0_2 0).f0) ((rd_T24 l0_2 0).f1) _ _ ((rd_T24 l0_2 0).f2) 5 t108 _ ?side1 ?side2 A20.out).mono ?_); (case side1 => repeat (first | exact (Kd.C_below HR107_2.out HB.out) | (with_reducible refine Kd.C_alloc ?_ _) | (with_reducible refine Kd.C_drewN ?_ _) | (with_reducible refine Kd.C_drew ?_))); (case side2 => exact HC107_2.out); rintro e w23 ⟨rfl, hb⟩; refine ⟨_, rfl, ?_⟩; have n0_ := Aside0.mk (blk_below (g := gb101) (o := .cells #[.int .i64 a0_0, .int .i64 a0_1, .slice (some ad107) l0_2.length c0_2] 24 (0, 0)) (bK) hb); have n1_ := Aside0.mk (below_step (bB) hb); clear BK101; clear HB; have BK101 := n0_; have HB := n1_; clear n0_ n1_; (try clear hb); (try clear hb2); (try clear hk); (try clear hi)))
         go_ret
         exact ⟨by first | rfl | (simp [errW_none, errW_some] <;> rfl) | (simp [*, errW_none, errW_some] <;> rfl), bB⟩
        ·rw [if_neg c21] at H
         exact absurd H (by simp)
       ·rw [if_neg c19] at H
        exact absurd H (by simp)
      ·rw [if_neg c18] at H
       have c18b0 : (a0_0 == 7) = false := beq_eq_false_iff_ne.mpr c18
       have c18b1 : (a0_0 != 7) = true := bne_iff_ne.mpr c18
       by_cases c24 : a0_0 = 4
       ·rw [if_pos c24] at H
        have c24b0 : (a0_0 == 4) = true := beq_iff_eq.mpr c24
        have c24b1 : (a0_0 != 4) = false := bne_eq_false_iff_eq.mpr c24
        clear c24
        have H' := Aside0.mk H
        clear H
        go_wp2
        go_meet
        case rel => exact ⟨_, ((⟨#[124]⟩ : ByteArray)), (2), (by first | rfl | (simp; done) | (simp [*]; done)), (by first | rfl | (simp; done) | (simp [*]; done)), H', ⟨by first | omega | exact Nat.le_refl _⟩, ⟨bK⟩, ⟨bB⟩⟩
       ·rw [if_neg c24] at H
        have c24b0 : (a0_0 == 4) = false := beq_eq_false_iff_ne.mpr c24
        have c24b1 : (a0_0 != 4) = true := bne_iff_ne.mpr c24
        by_cases c25 : a0_0 = 6
        ·rw [if_pos c25] at H
         have c25b0 : (a0_0 == 6) = true := beq_iff_eq.mpr c25
         have c25b1 : (a0_0 != 6) = false := bne_eq_false_iff_eq.mpr c25
         clear c25
         have H' := Aside0.mk H
         clear H
         go_wp2
         go_meet
         case rel => exact ⟨_, ((⟨#[38]⟩ : ByteArray)), (3), (by first | rfl | (simp; done) | (simp [*]; done)), (by first | rfl | (simp; done) | (simp [*]; done)), H', ⟨by first | omega | exact Nat.le_refl _⟩, ⟨bK⟩, ⟨bB⟩⟩
        ·rw [if_neg c25] at H
         have c25b0 : (a0_0 == 6) = false := beq_eq_false_iff_ne.mpr c25
         have c25b1 : (a0_0 != 6) = true := bne_iff_ne.mpr c25
         have H' := Aside0.mk H
         clear H
         go_wp2
         go_meet
         case rel => exact ⟨_, ((⟨#[]⟩ : ByteArray)), (4), (by first | rfl | (simp; done) | (simp [*]; done)), (by first | rfl | (simp; done) | (simp [*]; done)), H', ⟨by first | omega | exact Nat.le_refl _⟩, ⟨bK⟩, ⟨bB⟩⟩
 case rest =>
  clear HC2
  try clear c1
  try clear p1
  try clear q1
  try clear hx1
  try clear hcv1
  try clear qi1
  try clear c2
  try clear p2
  try clear c4
  try clear c5
  try clear c5b0
  try clear c5b1
  try clear c6
  try clear c6b0
  try clear c6b1
  try clear p6
  try clear c7
  try clear c7b0
  try clear c7b1
  try clear c10
  try clear p10
  try clear q10
  try clear hx10
  try clear qi10
  try clear hcv11
  try clear c12
  try clear c12b0
  try clear c12b1
  try clear c13
  try clear c13b0
  try clear c13b1
  try clear c15
  try clear c15b0
  try clear c15b1
  try clear c15b2
  try clear c18
  try clear c18b0
  try clear c18b1
  try clear c19
  try clear c19b0
  try clear c19b1
  try clear c20
  try clear c21
  try clear c21b0
  try clear c21b1
  try clear c21b2
  try clear c24
  try clear c24b0
  try clear c24b1
  try clear c25
  try clear c25b0
  try clear c25b1
  try clear hcz16_0
  try clear hcz16_1
  try clear hcz16_2
  try clear hcz22_0
  try clear hcz22_1
  try clear hcz22_2
  try clear hcz4_0
  try clear hcz4_1
  try clear hcz4_2
  try clear hcz8_0
  try clear hcz8_1
  try clear hcz8_2
  try clear hfz16_0
  try clear hfz16_1
  try clear hfz16_2
  try clear hfz22_0
  try clear hfz22_1
  try clear hfz22_2
  try clear hfz4_0
  try clear hfz4_1
  try clear hfz4_2
  try clear hfz8_0
  try clear hfz8_1
  try clear hfz8_2
  try clear hx105_0
  try clear hx105_1
  try clear hx105_2
  try clear hx107_0
  try clear hx107_1
  try clear hx107_2
  try clear p105
  try clear p107
  try clear q105
  try clear q107
  obtain ⟨kq, x4_1, x5_1, rfl, rfl, HA, HJ1, BK101, HB⟩ := hcut
  cases kq with
  | zero => exact absurd HA.out (by simp [semigroupref04_FormatS.j0])
  | succ kj1 =>
   have H := HA.out
   clear HA
   simp only [semigroupref04_FormatS.j0] at H
   have H' := Aside0.mk H
   clear H
   have hcz26_0 : wc.cell? ⟨gb101, 0, none⟩ = some (.int .i64 a0_0) := (blk_cell BK101.out 0).trans rfl
   have hcz26_1 : wc.cell? ⟨gb101, 1, none⟩ = some (.int .i64 a0_1) := (blk_cell BK101.out 1).trans rfl
   have hcz26_2 : wc.cell? ⟨gb101, 2, none⟩ = some (.slice A0_2 l0_2.length c0_2) := (blk_cell BK101.out 2).trans rfl
   have hfz26_0 := blk_frozen BK101.out 0
   have hfz26_1 := blk_frozen BK101.out 1
   have hfz26_2 := blk_frozen BK101.out 2
   go_wp2
   go_loopg [3, 45] kj1 (fun kq v3 v45 w' => ∃ (x3_2 : ByteArray) (x45_2 : Int), v3 = .string x3_2 ∧ v45 = .int .i64 x45_2 ∧ Aside0 (semigroupref04_FormatS.l0 kq x3_2 x4_1 x5_1 l0_2 (l0_2.length : Int) x45_2 = some r) ∧ Aside0 (kq ≤ kj1) ∧ Aside0 (w'.heap[gb101]? = some (.cells #[.int .i64 a0_0, .int .i64 a0_1, (.slice A0_2 l0_2.length c0_2)] 24 (0, 0))) ∧ Aside0 (Below w.heap.size w w'))
   case atStart => exact ⟨((⟨#[]⟩ : ByteArray)), (0), (by first | rfl | (simp; done) | (simp [*]; done)), (by first | rfl | (simp; done) | (simp [*]; done)), H', ⟨Nat.le_refl _⟩, ⟨bK⟩, ⟨bB⟩⟩
   case round =>
    clear H'
    try clear c1
    try clear p1
    try clear q1
    try clear hx1
    try clear hcv1
    try clear qi1
    try clear c2
    try clear p2
    try clear c4
    try clear c5
    try clear c5b0
    try clear c5b1
    try clear c6
    try clear c6b0
    try clear c6b1
    try clear p6
    try clear c7
    try clear c7b0
    try clear c7b1
    try clear c10
    try clear p10
    try clear q10
    try clear hx10
    try clear qi10
    try clear hcv11
    try clear c12
    try clear c12b0
    try clear c12b1
    try clear c13
    try clear c13b0
    try clear c13b1
    try clear c15
    try clear c15b0
    try clear c15b1
    try clear c15b2
    try clear c18
    try clear c18b0
    try clear c18b1
    try clear c19
    try clear c19b0
    try clear c19b1
    try clear c20
    try clear c21
    try clear c21b0
    try clear c21b1
    try clear c21b2
    try clear c24
    try clear c24b0
    try clear c24b1
    try clear c25
    try clear c25b0
    try clear c25b1
    try clear hcz16_0
    try clear hcz16_1
    try clear hcz16_2
    try clear hcz22_0
    try clear hcz22_1
    try clear hcz22_2
    try clear hcz26_0
    try clear hcz26_1
    try clear hcz26_2
    try clear hcz4_0
    try clear hcz4_1
    try clear hcz4_2
    try clear hcz8_0
    try clear hcz8_1
    try clear hcz8_2
    try clear hfz16_0
    try clear hfz16_1
    try clear hfz16_2
    try clear hfz22_0
    try clear hfz22_1
    try clear hfz22_2
    try clear hfz26_0
    try clear hfz26_1
    try clear hfz26_2
    try clear hfz4_0
    try clear hfz4_1
    try clear hfz4_2
    try clear hfz8_0
    try clear hfz8_1
    try clear hfz8_2
    try clear hx105_0
    try clear hx105_1
    try clear hx105_2
    try clear hx107_0
    try clear hx107_1
    try clear hx107_2
    try clear p1
    try clear p10
    try clear p105
    try clear p107
    try clear p2
    try clear p6
    try clear q1
    try clear q10
    try clear q105
    try clear q107
    obtain ⟨x3_2, x45_2, rfl, rfl, HA, HK2, BK101, HB⟩ := hrel
    cases gk with
    | zero => exact absurd HA.out (by simp [semigroupref04_FormatS.l0])
    | succ k2 =>
     have H := HA.out
     clear HA
     simp only [semigroupref04_FormatS.l0] at H
     by_cases c27 : x45_2 < (l0_2.length : Int)
     ·rw [if_pos c27] at H
      have c27b0 : decide (x45_2 < (l0_2.length : Int)) = true := decide_eq_true c27
      clear c27
      by_cases c28 : 0 ≤ x45_2
      ·rw [if_pos c28] at H
       have c28b0 : decide (0 ≤ x45_2) = true := decide_eq_true c28
       clear c28
       by_cases c29 : x45_2 < (l0_2.length : Int)
       ·rw [if_pos c29] at H
        have c29b0 : decide (x45_2 < (l0_2.length : Int)) = true := decide_eq_true c29
        clear c29
        by_cases c30 : x45_2 > 0
        ·rw [if_pos c30] at H
         have c30b0 : decide (0 < x45_2) = true := decide_eq_true c30
         clear c30
         by_cases c31 : x3_2.size + x4_1.size ≤ 9223372036854775807
         ·rw [if_pos c31] at H
          have c31b0 := eq_true c31
          have c31b1 : decide (x3_2.size + x4_1.size ≤ 9223372036854775807) = true := decide_eq_true c31
          try have c31b2 : (9223372036854775807 < x3_2.size + x4_1.size) = False := eq_false (Nat.not_lt.2 c31)
          replace H := Option.bind_eq_some_iff.mp H
          obtain ⟨t111, A320, H⟩ := H
          replace H : (if (x3_2 ++ x4_1).size + t111.size ≤ 9223372036854775807 then (semigroupref04_FormatS.l0 k2 ((x3_2 ++ x4_1) ++ t111) x4_1 x5_1 l0_2 (l0_2.length : Int) (wrap64 (x45_2 + 1))) else (none)) = some r := H
          have A32 := Aside0.mk A320
          clear A320
          by_cases c33 : (x3_2 ++ x4_1).size + t111.size ≤ 9223372036854775807
          ·rw [if_pos c33] at H
           have c33b0 := eq_true c33
           have c33b1 : decide ((x3_2 ++ x4_1).size + t111.size ≤ 9223372036854775807) = true := decide_eq_true c33
           try have c33b2 : (9223372036854775807 < (x3_2 ++ x4_1).size + t111.size) = False := eq_false (Nat.not_lt.2 c33)
           try have c33b3 : (9223372036854775807 < x3_2.size + x4_1.size + t111.size) = False := eq_false (Nat.not_lt.2 (by have h_ := c33; first | (simp only [ByteArray.size_append] at h_; exact h_) | (simpa [ByteArray.size_append] using h_)))
           have H' := Aside0.mk H
           clear H
           have p109 : 0 ≤ (x45_2 : Int) := of_decide_eq_true (by first | (with_reducible assumption) | assumption)
           have q109 : x45_2 < (l0_2.length : Int) := of_decide_eq_true (by first | (with_reducible assumption) | assumption)
           obtain ⟨ad109, A109_2, c109_2, e109, hx109_0, hx109_1, hx109_2, hl109_2, hi109_2⟩ := at_T24 HR0_2.out x45_2 p109 q109
           cases e109
           replace hx109_0 := (HB.out.cell (World.block_lt_of_cell? w _ hx109_0)).trans hx109_0
           replace hx109_1 := (HB.out.cell (World.block_lt_of_cell? w _ hx109_1)).trans hx109_1
           replace hx109_2 := (HB.out.cell (World.block_lt_of_cell? w _ hx109_2)).trans hx109_2
           have HR109_2 := Aside0.mk hi109_2
           have HC109_2 := Aside0.mk hl109_2
           clear hi109_2 hl109_2
           replace p109 := eq_true p109
           replace q109 := eq_true q109
           go_wp2_with (first | ((with_reducible refine gate_dst (N := 7) rfl ?_); refine box_event ?hg (N := 7) ?hd (cs := #[.int .i64 0, .int .i64 0, .slice none 0 0]) (t := 24) ?hr ?_; (case hd => rfl); (case hg => rfl); (case hr => first | (go_simp; done) | (go_simp; rfl)); intro gb110 hg w34 hbox hb; have n0_ := Aside0.mk (blk_below (g := gb101) (o := .cells #[.int .i64 a0_0, .int .i64 a0_1, .slice (some ad109) l0_2.length c0_2] 24 (0, 0)) (bK) hb); have n1_ := Aside0.mk (below_step (bB) hb); have n2_ := Aside0.mk (hbox); have n3_ := Aside0.mk ((by rw [hg]; exact (below_size (bB)) : w.heap.size ≤ gb110)); have n4_ := Aside0.mk ((by rw [hg]; exact (below_size (bB)) : w.heap.size ≤ gb110)); have n5_ := Aside0.mk ((by rw [hg]; exact Nat.ne_of_lt (blk_lt (g := gb101) (o := .cells #[.int .i64 a0_0, .int .i64 a0_1, .slice (some ad109) l0_2.length c0_2] 24 (0, 0)) (bK)) : gb101 ≠ gb110)); have n6_ := Aside0.mk ((by rw [hg]; exact Nat.ne_of_gt (blk_lt (g := gb101) (o := .cells #[.int .i64 a0_0, .int .i64 a0_1, .slice (some ad109) l0_2.length c0_2] 24 (0, 0)) (bK)) : gb110 ≠ gb101)); clear BK101; clear HB; have BK101 := n0_; have HB := n1_; have BK110 := n2_; have GW110 := n3_; have GE110 := n4_; have NB101_110 := n5_; have NB110_101 := n6_; clear n0_ n1_ n2_ n3_ n4_ n5_ n6_; clear hb hbox hg; have hnb35 := NB110_101.out; have hnc35 := NB101_110.out; have hcz36_0 : w34.cell? ⟨gb110, 0, none⟩ = some (.int .i64 0) := (blk_cell BK110.out 0).trans rfl; have hcz36_1 : w34.cell? ⟨gb110, 1, none⟩ = some (.int .i64 0) := (blk_cell BK110.out 1).trans rfl; have hcz36_2 : w34.cell? ⟨gb110, 2, none⟩ = some (.slice none 0 0) := (blk_cell BK110.out 2).trans rfl; have hfz36_0 := blk_frozen BK110.out 0; have hfz36_1 := blk_frozen BK110.out 1; have hfz36_2 := blk_frozen BK110.out 2) | ((with_reducible refine gate_callee (f := 48) rfl ?_); refine goesL_ (some 58) rfl rfl Try.func48 (by kernel_rfl) rfl #[.agg #[.int .i64 ((rd_T24 l0_2 x45_2).f0), .int .i64 ((rd_T24 l0_2 x45_2).f1), .slice A109_2 ((rd_T24 l0_2 x45_2).f2).length c109_2], .int .i64 x5_1] rfl (by (try simp only [List.map_toArray, List.map_cons, List.map_nil]); first | done | rfl | (simp only [List.length_drop, List.length_take]; rfl) | (simp only [Int.ofNat_lt, Int.ofNat_le]; rfl)) ?_; (with_reducible refine (semigroupref04_part.calls k2 ((rd_T24 l0_2 x45_2).f0) ((rd_T24 l0_2 x45_2).f1) _ _ ((rd_T24 l0_2 x45_2).f2) x5_1 t111 _ ?side1 ?side2 A32.out).mono ?_); (case side1 => exact Kd.C_below HR109_2.out (bB)); (case side2 => exact HC109_2.out); rintro e w37 ⟨rfl, hb⟩; refine ⟨_, rfl, ?_⟩; have n0_ := Aside0.mk (blk_below (g := gb101) (o := .cells #[.int .i64 a0_0, .int .i64 a0_1, .slice (some ad109) l0_2.length c0_2] 24 (0, 0)) (by (with_reducible repeat (first | refine blk_drewN ?_ _ | refine blk_drew ?_ | refine blk_alloc ?_ _)); refine blk_far ?_ NB101_110.out _; (with_reducible repeat (first | refine blk_drewN ?_ _ | refine blk_drew ?_ | refine blk_alloc ?_ _)); refine blk_far ?_ NB101_110.out _; (with_reducible repeat (first | refine blk_drewN ?_ _ | refine blk_drew ?_ | refine blk_alloc ?_ _)); refine blk_far ?_ NB101_110.out _; (with_reducible repeat (first | refine blk_drewN ?_ _ | refine blk_drew ?_ | refine blk_alloc ?_ _)); exact BK101.out) hb); have n1_ := Aside0.mk (blk_below (g := gb110) (o := .cells #[.int .i64 ((rd_T24 l0_2 x45_2).f0), .int .i64 ((rd_T24 l0_2 x45_2).f1), .slice A109_2 ((rd_T24 l0_2 x45_2).f2).length c109_2] 24 (0, 0)) (by (with_reducible repeat (first | refine blk_drewN ?_ _ | refine blk_drew ?_ | refine blk_alloc ?_ _)); refine blk_put (cs := #[.int .i64 ((rd_T24 l0_2 x45_2).f0), .int .i64 ((rd_T24 l0_2 x45_2).f1), .slice none 0 0]) ?_ 2 _ rfl; (with_reducible repeat (first | refine blk_drewN ?_ _ | refine blk_drew ?_ | refine blk_alloc ?_ _)); refine blk_put (cs := #[.int .i64 ((rd_T24 l0_2 x45_2).f0), .int .i64 0, .slice none 0 0]) ?_ 1 _ rfl; (with_reducible repeat (first | refine blk_drewN ?_ _ | refine blk_drew ?_ | refine blk_alloc ?_ _)); refine blk_put (cs := #[.int .i64 0, .int .i64 0, .slice none 0 0]) ?_ 0 _ rfl; (with_reducible repeat (first | refine blk_drewN ?_ _ | refine blk_drew ?_ | refine blk_alloc ?_ _)); exact BK110.out) hb); have n2_ := Aside0.mk (below_step (bB) hb); clear BK101; clear BK110; clear HB; have BK101 := n0_; have BK110 := n1_; have HB := n2_; clear n0_ n1_ n2_; (try clear hb); (try clear hb2); (try clear hk); (try clear hi)))
           (first | go_roundg k2 | ((simp only [add_plain] at *); go_roundg k2))
           case measure => have := HJ1.out; have := HK2.out; omega
           case rel => exact ⟨((x3_2 ++ x4_1) ++ t111), (wrap64 (x45_2 + 1)), (by first | rfl | (simp; done) | (simp [*]; done)), (by first | rfl | (simp; done) | (simp [*]; done)), H', ⟨by have := HJ1.out; have := HK2.out; omega⟩, ⟨bK⟩, ⟨bB⟩⟩
          ·rw [if_neg c33] at H
           exact absurd H (by simp)
         ·rw [if_neg c31] at H
          exact absurd H (by simp)
        ·rw [if_neg c30] at H
         have c30b0 : decide (0 < x45_2) = false := decide_eq_false c30
         clear c30
         replace H := Option.bind_eq_some_iff.mp H
         obtain ⟨t112, A380, H⟩ := H
         replace H : (if x3_2.size + t112.size ≤ 9223372036854775807 then (semigroupref04_FormatS.l0 k2 (x3_2 ++ t112) x4_1 x5_1 l0_2 (l0_2.length : Int) (wrap64 (x45_2 + 1))) else (none)) = some r := H
         have A38 := Aside0.mk A380
         clear A380
         by_cases c39 : x3_2.size + t112.size ≤ 9223372036854775807
         ·rw [if_pos c39] at H
          have c39b0 := eq_true c39
          have c39b1 : decide (x3_2.size + t112.size ≤ 9223372036854775807) = true := decide_eq_true c39
          try have c39b2 : (9223372036854775807 < x3_2.size + t112.size) = False := eq_false (Nat.not_lt.2 c39)
          have H' := Aside0.mk H
          clear H
          have p109 : 0 ≤ (x45_2 : Int) := of_decide_eq_true (by first | (with_reducible assumption) | assumption)
          have q109 : x45_2 < (l0_2.length : Int) := of_decide_eq_true (by first | (with_reducible assumption) | assumption)
          obtain ⟨ad109, A109_2, c109_2, e109, hx109_0, hx109_1, hx109_2, hl109_2, hi109_2⟩ := at_T24 HR0_2.out x45_2 p109 q109
          cases e109
          replace hx109_0 := (HB.out.cell (World.block_lt_of_cell? w _ hx109_0)).trans hx109_0
          replace hx109_1 := (HB.out.cell (World.block_lt_of_cell? w _ hx109_1)).trans hx109_1
          replace hx109_2 := (HB.out.cell (World.block_lt_of_cell? w _ hx109_2)).trans hx109_2
          have HR109_2 := Aside0.mk hi109_2
          have HC109_2 := Aside0.mk hl109_2
          clear hi109_2 hl109_2
          replace p109 := eq_true p109
          replace q109 := eq_true q109
          go_wp2_with (first | ((with_reducible refine gate_dst (N := 7) rfl ?_); refine box_event ?hg (N := 7) ?hd (cs := #[.int .i64 0, .int .i64 0, .slice none 0 0]) (t := 24) ?hr ?_; (case hd => rfl); (case hg => rfl); (case hr => first | (go_simp; done) | (go_simp; rfl)); intro gb110 hg w40 hbox hb; have n0_ := Aside0.mk (blk_below (g := gb101) (o := .cells #[.int .i64 a0_0, .int .i64 a0_1, .slice (some ad109) l0_2.length c0_2] 24 (0, 0)) (bK) hb); have n1_ := Aside0.mk (below_step (bB) hb); have n2_ := Aside0.mk (hbox); have n3_ := Aside0.mk ((by rw [hg]; exact (below_size (bB)) : w.heap.size ≤ gb110)); have n4_ := Aside0.mk ((by rw [hg]; exact (below_size (bB)) : w.heap.size ≤ gb110)); have n5_ := Aside0.mk ((by rw [hg]; exact Nat.ne_of_lt (blk_lt (g := gb101) (o := .cells #[.int .i64 a0_0, .int .i64 a0_1, .slice (some ad109) l0_2.length c0_2] 24 (0, 0)) (bK)) : gb101 ≠ gb110)); have n6_ := Aside0.mk ((by rw [hg]; exact Nat.ne_of_gt (blk_lt (g := gb101) (o := .cells #[.int .i64 a0_0, .int .i64 a0_1, .slice (some ad109) l0_2.length c0_2] 24 (0, 0)) (bK)) : gb110 ≠ gb101)); clear BK101; clear HB; have BK101 := n0_; have HB := n1_; have BK110 := n2_; have GW110 := n3_; have GE110 := n4_; have NB101_110 := n5_; have NB110_101 := n6_; clear n0_ n1_ n2_ n3_ n4_ n5_ n6_; clear hb hbox hg; have hnb41 := NB110_101.out; have hnc41 := NB101_110.out; have hcz42_0 : w40.cell? ⟨gb110, 0, none⟩ = some (.int .i64 0) := (blk_cell BK110.out 0).trans rfl; have hcz42_1 : w40.cell? ⟨gb110, 1, none⟩ = some (.int .i64 0) := (blk_cell BK110.out 1).trans rfl; have hcz42_2 : w40.cell? ⟨gb110, 2, none⟩ = some (.slice none 0 0) := (blk_cell BK110.out 2).trans rfl; have hfz42_0 := blk_frozen BK110.out 0; have hfz42_1 := blk_frozen BK110.out 1; have hfz42_2 := blk_frozen BK110.out 2) | ((with_reducible refine gate_callee (f := 48) rfl ?_); refine goesL_ (some 58) rfl rfl Try.func48 (by kernel_rfl) rfl #[.agg #[.int .i64 ((rd_T24 l0_2 x45_2).f0), .int .i64 ((rd_T24 l0_2 x45_2).f1), .slice A109_2 ((rd_T24 l0_2 x45_2).f2).length c109_2], .int .i64 x5_1] rfl (by (try simp only [List.map_toArray, List.map_cons, List.map_nil]); first | done | rfl | (simp only [List.length_drop, List.length_take]; rfl) | (simp only [Int.ofNat_lt, Int.ofNat_le]; rfl)) ?_; (with_reducible refine (semigroupref04_part.calls k2 ((rd_T24 l0_2 x45_2).f0) ((rd_T24 l0_2 x45_2).f1) _ _ ((rd_T24 l0_2 x45_2).f2) x5_1 t112 _ ?side1 ?side2 A38.out).mono ?_); (case side1 => exact Kd.C_below HR109_2.out (bB)); (case side2 => exact HC109_2.out); rintro e w43 ⟨rfl, hb⟩; refine ⟨_, rfl, ?_⟩; have n0_ := Aside0.mk (blk_below (g := gb101) (o := .cells #[.int .i64 a0_0, .int .i64 a0_1, .slice (some ad109) l0_2.length c0_2] 24 (0, 0)) (by (with_reducible repeat (first | refine blk_drewN ?_ _ | refine blk_drew ?_ | refine blk_alloc ?_ _)); refine blk_far ?_ NB101_110.out _; (with_reducible repeat (first | refine blk_drewN ?_ _ | refine blk_drew ?_ | refine blk_alloc ?_ _)); refine blk_far ?_ NB101_110.out _; (with_reducible repeat (first | refine blk_drewN ?_ _ | refine blk_drew ?_ | refine blk_alloc ?_ _)); refine blk_far ?_ NB101_110.out _; (with_reducible repeat (first | refine blk_drewN ?_ _ | refine blk_drew ?_ | refine blk_alloc ?_ _)); exact BK101.out) hb); have n1_ := Aside0.mk (blk_below (g := gb110) (o := .cells #[.int .i64 ((rd_T24 l0_2 x45_2).f0), .int .i64 ((rd_T24 l0_2 x45_2).f1), .slice A109_2 ((rd_T24 l0_2 x45_2).f2).length c109_2] 24 (0, 0)) (by (with_reducible repeat (first | refine blk_drewN ?_ _ | refine blk_drew ?_ | refine blk_alloc ?_ _)); refine blk_put (cs := #[.int .i64 ((rd_T24 l0_2 x45_2).f0), .int .i64 ((rd_T24 l0_2 x45_2).f1), .slice none 0 0]) ?_ 2 _ rfl; (with_reducible repeat (first | refine blk_drewN ?_ _ | refine blk_drew ?_ | refine blk_alloc ?_ _)); refine blk_put (cs := #[.int .i64 ((rd_T24 l0_2 x45_2).f0), .int .i64 0, .slice none 0 0]) ?_ 1 _ rfl; (with_reducible repeat (first | refine blk_drewN ?_ _ | refine blk_drew ?_ | refine blk_alloc ?_ _)); refine blk_put (cs := #[.int .i64 0, .int .i64 0, .slice none 0 0]) ?_ 0 _ rfl; (with_reducible repeat (first | refine blk_drewN ?_ _ | refine blk_drew ?_ | refine blk_alloc ?_ _)); exact BK110.out) hb); have n2_ := Aside0.mk (below_step (bB) hb); clear BK101; clear BK110; clear HB; have BK101 := n0_; have BK110 := n1_; have HB := n2_; clear n0_ n1_ n2_; (try clear hb); (try clear hb2); (try clear hk); (try clear hi)))
          (first | go_roundg k2 | ((simp only [add_plain] at *); go_roundg k2))
          case measure => have := HJ1.out; have := HK2.out; omega
          case rel => exact ⟨(x3_2 ++ t112), (wrap64 (x45_2 + 1)), (by first | rfl | (simp; done) | (simp [*]; done)), (by first | rfl | (simp; done) | (simp [*]; done)), H', ⟨by have := HJ1.out; have := HK2.out; omega⟩, ⟨bK⟩, ⟨bB⟩⟩
         ·rw [if_neg c39] at H
          exact absurd H (by simp)
       ·rw [if_neg c29] at H
        exact absurd H (by simp)
      ·rw [if_neg c28] at H
       exact absurd H (by simp)
     ·rw [if_neg c27] at H
      have c27b0 : decide (x45_2 < (l0_2.length : Int)) = false := decide_eq_false c27
      clear c27
      obtain rfl := Option.some.inj H
      go_wp2
      go_ret
      exact ⟨by first | rfl | (simp [errW_none, errW_some] <;> rfl) | (simp [*, errW_none, errW_some] <;> rfl), bB⟩
end Go.Proofs.Ytjofkebiacaciaa.PAll
end
section
namespace Go.Proofs.Ytjofkebiacaciaa.PAll
open Go.RowKit Go.Proofs.YtjofkebiacaciaaW.PrintWords Go.Proofs.YtjofkebiacaciaaW.PrintLast Go.Proofs.YtjofkebiacaciaaW.PrintMore
set_option linter.all false
abbrev fmt0 : FmtC where
 f := fun _ _ _ _ => none
 mono := fun _ _ _ _ => LeO.none _
 calls := fun k a0_0 a0_1 A0_2 c0_2 l0_2 r w hr0_2 hc0_2 h => by simp at h
abbrev fmtK : Nat → FmtC
 | 0 => fmt0
 | d + 1 => @FmtC.mk (@semigroupref04_FormatS.f (fmtK d)) (@semigroupref04_FormatS.mono (fmtK d)) (@semigroupref04_FormatS.calls (fmtK d))
end Go.Proofs.Ytjofkebiacaciaa.PAll
end
section
namespace Go.Proofs.Ytjofkebiacaciaa.PAll
open Go.RowKit Go.Proofs.YtjofkebiacaciaaW.PrintWords Go.Proofs.YtjofkebiacaciaaW.PrintLast Go.Proofs.YtjofkebiacaciaaW.PrintMore
attribute [local go_sem] max2_int min2_int max_two min_two max_three min_three max_four min_four
set_option linter.unusedVariables false
set_option linter.unusedSimpArgs false
mutual
def expr_size.l0 : Nat → Int → List (S24) → Int → Int → Option (Int)
 | 0, _, _, _, _ => none
 | k + 1, x3, x7, x8, x9 => if x9 < x8 then (if 0 ≤ x9 then (if x9 < (x7.length : Int) then ((expr_size.f k ((rd_T24 x7 x9).f0) ((rd_T24 x7 x9).f1) ((rd_T24 x7 x9).f2)).bind fun t372 => (expr_size.l0 k (wrap64 (x3 + t372)) x7 x8 (wrap64 (x9 + 1)))) else (none)) else (none)) else (some x3)
def expr_size.f : Nat → Int → Int → List (S24) → Option (Int)
 | 0, _, _, _ => none
 | k + 1, a0_0, a0_1, l0_2 => expr_size.l0 k 1 l0_2 (l0_2.length : Int) 0
end
theorem expr_size.mono_l : ∀ k, (∀ y0 y1 y2, LeO (expr_size.f k y0 y1 y2) (expr_size.f (k + 1) y0 y1 y2)) ∧ (∀ y0 y1 y2 y3, LeO (expr_size.l0 k y0 y1 y2 y3) (expr_size.l0 (k + 1) y0 y1 y2 y3))
 | 0 => ⟨fun _ _ _ r h => by simp [expr_size.f] at h, fun _ _ _ _ r h => by simp [expr_size.l0] at h⟩
 | k + 1 => by
  obtain ⟨ih0, ih1⟩ := expr_size.mono_l k
  refine ⟨?_, ?_⟩
  ·intro y0 y1 y2
   unfold expr_size.f
   repeat' first
   | (with_reducible exact ih0 _ _ _)
   | (with_reducible exact ih1 _ _ _ _)
   | (with_reducible exact LeO.refl _)
   | (with_reducible exact LeO.none _)
   | (with_reducible refine LeO.ite ?_ ?_)
   | (with_reducible refine LeO.bind ?_ (fun _ => ?_))
   | exact ih0 _ _ _
   | exact ih1 _ _ _ _
   | exact LeO.none _
   | refine LeO.ite ?_ ?_
   | refine LeO.bind ?_ (fun _ => ?_)
  ·intro y0 y1 y2 y3
   unfold expr_size.l0
   repeat' first
   | (with_reducible exact ih0 _ _ _)
   | (with_reducible exact ih1 _ _ _ _)
   | (with_reducible exact LeO.refl _)
   | (with_reducible exact LeO.none _)
   | (with_reducible refine LeO.ite ?_ ?_)
   | (with_reducible refine LeO.bind ?_ (fun _ => ?_))
   | exact ih0 _ _ _
   | exact ih1 _ _ _ _
   | exact LeO.none _
   | refine LeO.ite ?_ ?_
   | refine LeO.bind ?_ (fun _ => ?_)
theorem expr_size.mono : ∀ a0 a1 a2 k, LeO (expr_size.f k a0 a1 a2) (expr_size.f (k + 1) a0 a1 a2) := by
 intro a0 a1 a2 k
 obtain ⟨ih0, ih1⟩ := expr_size.mono_l k
 exact ih0 a0 a1 a2
set_option maxHeartbeats 8000000 in
set_option maxRecDepth 100000 in
theorem expr_size.calls (k : Nat) : ∀ (a0_0 : Int) (a0_1 : Int) (A0_2 : Option Addr) (c0_2 : Nat) (l0_2 : List (S24)) (r : Int) (w : World) (hr0_2 : Kd.C k24 w A0_2 l0_2.length l0_2) (hc0_2 : l0_2.length ≤ c0_2) (h : expr_size.f k a0_0 a0_1 l0_2 = some r),
  Calls Try.prog 54 #[.agg #[.int .i64 a0_0, .int .i64 a0_1, .slice A0_2 l0_2.length c0_2]] w fun e w' => e = .returned (.int .i64 r) ∧ Below w.heap.size w w' := by
 induction k using Nat.strongRecOn with
 | _ k ih =>
 intro a0_0 a0_1 A0_2 c0_2 l0_2 r w hr0_2 hc0_2 h
 cases k with
 | zero => exact absurd h (by simp [expr_size.f])
 | succ k =>
 simp only [expr_size.f] at h
 have hu24 := Try.underlying24
 have HR0_2 := Aside0.mk hr0_2
 have HC0_2 := Aside0.mk hc0_2
 clear hr0_2 hc0_2
 have HB := Aside0.mk (Below.refl w.heap.size w)
 have H : (expr_size.l0 k 1 l0_2 (l0_2.length : Int) 0) = some r := h
 clear h
 have H' := Aside0.mk H
 clear H
 go_enter Try.func54, Try.ntmps54
 go_wp2_with (first | ((with_reducible refine gate_dst (N := 1) rfl ?_); refine box_event ?hg (N := 1) ?hd (cs := #[.int .i64 a0_0, .int .i64 a0_1, .slice A0_2 l0_2.length c0_2]) (t := 24) ?hr ?_; (case hd => rfl); (case hg => rfl); (case hr => first | (go_simp; done) | (go_simp; rfl)); intro gb369 hg w2 hbox hb; have n0_ := Aside0.mk (below_step (bB) hb); have n1_ := Aside0.mk (hbox); have n2_ := Aside0.mk ((by rw [hg]; exact (below_size (bB)) : w.heap.size ≤ gb369)); have n3_ := Aside0.mk ((by rw [hg]; exact (below_size (bB)) : w.heap.size ≤ gb369)); clear HB; have HB := n0_; have BK369 := n1_; have GW369 := n2_; have GE369 := n3_; clear n0_ n1_ n2_ n3_; clear hb hbox hg; have hcz3_0 : w2.cell? ⟨gb369, 0, none⟩ = some (.int .i64 a0_0) := (blk_cell BK369.out 0).trans rfl; have hcz3_1 : w2.cell? ⟨gb369, 1, none⟩ = some (.int .i64 a0_1) := (blk_cell BK369.out 1).trans rfl; have hcz3_2 : w2.cell? ⟨gb369, 2, none⟩ = some (.slice A0_2 l0_2.length c0_2) := (blk_cell BK369.out 2).trans rfl; have hfz3_0 := blk_frozen BK369.out 0; have hfz3_1 := blk_frozen BK369.out 1; have hfz3_2 := blk_frozen BK369.out 2))
 go_loopg [3, 9] k (fun kq v3 v9 w' => ∃ (x3_1 : Int) (x9_1 : Int), v3 = .int .i64 x3_1 ∧ v9 = .int .i64 x9_1 ∧ Aside0 (expr_size.l0 kq x3_1 l0_2 (l0_2.length : Int) x9_1 = some r) ∧ Aside0 (kq ≤ k) ∧ Aside0 (w'.heap[gb369]? = some (.cells #[.int .i64 a0_0, .int .i64 a0_1, (.slice A0_2 l0_2.length c0_2)] 24 (0, 0))) ∧ Aside0 (Below w.heap.size w w'))
 case atStart => exact ⟨(1), (0), (by first | rfl | (simp; done) | (simp [*]; done)), (by first | rfl | (simp; done) | (simp [*]; done)), H', ⟨Nat.le_refl _⟩, ⟨bK⟩, ⟨bB⟩⟩
 case round =>
  clear H'
  try clear p2
  try clear hcz3_0
  try clear hcz3_1
  try clear hcz3_2
  try clear hfz3_0
  try clear hfz3_1
  try clear hfz3_2
  obtain ⟨x3_1, x9_1, rfl, rfl, HA, HK1, BK369, HB⟩ := hrel
  cases gk with
  | zero => exact absurd HA.out (by simp [expr_size.l0])
  | succ k1 =>
   have H := HA.out
   clear HA
   simp only [expr_size.l0] at H
   by_cases c4 : x9_1 < (l0_2.length : Int)
   ·rw [if_pos c4] at H
    have c4b0 : decide (x9_1 < (l0_2.length : Int)) = true := decide_eq_true c4
    clear c4
    by_cases c5 : 0 ≤ x9_1
    ·rw [if_pos c5] at H
     have c5b0 : decide (0 ≤ x9_1) = true := decide_eq_true c5
     clear c5
     by_cases c6 : x9_1 < (l0_2.length : Int)
     ·rw [if_pos c6] at H
      have c6b0 : decide (x9_1 < (l0_2.length : Int)) = true := decide_eq_true c6
      clear c6
      replace H := Option.bind_eq_some_iff.mp H
      obtain ⟨t372, A70, H⟩ := H
      replace H : (expr_size.l0 k1 (wrap64 (x3_1 + t372)) l0_2 (l0_2.length : Int) (wrap64 (x9_1 + 1))) = some r := H
      have A7 := Aside0.mk A70
      clear A70
      have H' := Aside0.mk H
      clear H
      have p370 : 0 ≤ (x9_1 : Int) := of_decide_eq_true (by first | (with_reducible assumption) | assumption)
      have q370 : x9_1 < (l0_2.length : Int) := of_decide_eq_true (by first | (with_reducible assumption) | assumption)
      obtain ⟨ad370, A370_2, c370_2, e370, hx370_0, hx370_1, hx370_2, hl370_2, hi370_2⟩ := at_T24 HR0_2.out x9_1 p370 q370
      cases e370
      replace hx370_0 := (HB.out.cell (World.block_lt_of_cell? w _ hx370_0)).trans hx370_0
      replace hx370_1 := (HB.out.cell (World.block_lt_of_cell? w _ hx370_1)).trans hx370_1
      replace hx370_2 := (HB.out.cell (World.block_lt_of_cell? w _ hx370_2)).trans hx370_2
      have HR370_2 := Aside0.mk hi370_2
      have HC370_2 := Aside0.mk hl370_2
      clear hi370_2 hl370_2
      replace p370 := eq_true p370
      replace q370 := eq_true q370
      go_wp2_with (first | ((with_reducible refine gate_dst (N := 5) rfl ?_); refine box_event ?hg (N := 5) ?hd (cs := #[.int .i64 0, .int .i64 0, .slice none 0 0]) (t := 24) ?hr ?_; (case hd => rfl); (case hg => rfl); (case hr => first | (go_simp; done) | (go_simp; rfl)); intro gb371 hg w8 hbox hb; have n0_ := Aside0.mk (blk_below (g := gb369) (o := .cells #[.int .i64 a0_0, .int .i64 a0_1, .slice (some ad370) l0_2.length c0_2] 24 (0, 0)) (bK) hb); have n1_ := Aside0.mk (below_step (bB) hb); have n2_ := Aside0.mk (hbox); have n3_ := Aside0.mk ((by rw [hg]; exact (below_size (bB)) : w.heap.size ≤ gb371)); have n4_ := Aside0.mk ((by rw [hg]; exact (below_size (bB)) : w.heap.size ≤ gb371)); have n5_ := Aside0.mk ((by rw [hg]; exact Nat.ne_of_lt (blk_lt (g := gb369) (o := .cells #[.int .i64 a0_0, .int .i64 a0_1, .slice (some ad370) l0_2.length c0_2] 24 (0, 0)) (bK)) : gb369 ≠ gb371)); have n6_ := Aside0.mk ((by rw [hg]; exact Nat.ne_of_gt (blk_lt (g := gb369) (o := .cells #[.int .i64 a0_0, .int .i64 a0_1, .slice (some ad370) l0_2.length c0_2] 24 (0, 0)) (bK)) : gb371 ≠ gb369)); clear BK369; clear HB; have BK369 := n0_; have HB := n1_; have BK371 := n2_; have GW371 := n3_; have GE371 := n4_; have NB369_371 := n5_; have NB371_369 := n6_; clear n0_ n1_ n2_ n3_ n4_ n5_ n6_; clear hb hbox hg; have hnb9 := NB371_369.out; have hnc9 := NB369_371.out; have hcz10_0 : w8.cell? ⟨gb371, 0, none⟩ = some (.int .i64 0) := (blk_cell BK371.out 0).trans rfl; have hcz10_1 : w8.cell? ⟨gb371, 1, none⟩ = some (.int .i64 0) := (blk_cell BK371.out 1).trans rfl; have hcz10_2 : w8.cell? ⟨gb371, 2, none⟩ = some (.slice none 0 0) := (blk_cell BK371.out 2).trans rfl; have hfz10_0 := blk_frozen BK371.out 0; have hfz10_1 := blk_frozen BK371.out 1; have hfz10_2 := blk_frozen BK371.out 2) | ((with_reducible refine gate_callee (f := 54) rfl ?_); refine goesL_ (some 15) rfl rfl Try.func54 (by kernel_rfl) rfl #[.agg #[.int .i64 ((rd_T24 l0_2 x9_1).f0), .int .i64 ((rd_T24 l0_2 x9_1).f1), .slice A370_2 ((rd_T24 l0_2 x9_1).f2).length c370_2]] rfl (by (try simp only [List.map_toArray, List.map_cons, List.map_nil]); first | done | rfl | (simp only [List.length_drop, List.length_take]; rfl) | (simp only [Int.ofNat_lt, Int.ofNat_le]; rfl)) ?_; (with_reducible refine (ih k1 (by have := HK1.out; omega) ((rd_T24 l0_2 x9_1).f0) ((rd_T24 l0_2 x9_1).f1) _ _ ((rd_T24 l0_2 x9_1).f2) t372 _ ?side1 ?side2 A7.out).mono ?_); (case side1 => exact Kd.C_below HR370_2.out (bB)); (case side2 => exact HC370_2.out); rintro e w11 ⟨rfl, hb⟩; refine ⟨_, rfl, ?_⟩; have n0_ := Aside0.mk (blk_below (g := gb369) (o := .cells #[.int .i64 a0_0, .int .i64 a0_1, .slice (some ad370) l0_2.length c0_2] 24 (0, 0)) (by (with_reducible repeat (first | refine blk_drewN ?_ _ | refine blk_drew ?_ | refine blk_alloc ?_ _)); refine blk_far ?_ NB369_371.out _; (with_reducible repeat (first | refine blk_drewN ?_ _ | refine blk_drew ?_ | refine blk_alloc ?_ _)); refine blk_far ?_ NB369_371.out _; (with_reducible repeat (first | refine blk_drewN ?_ _ | refine blk_drew ?_ | refine blk_alloc ?_ _)); refine blk_far ?_ NB369_371.out _; (with_reducible repeat (first | refine blk_drewN ?_ _ | refine blk_drew ?_ | refine blk_alloc ?_ _)); exact BK369.out) hb); have n1_ := Aside0.mk (blk_below (g := gb371) (o := .cells #[.int .i64 ((rd_T24 l0_2 x9_1).f0), .int .i64 ((rd_T24 l0_2 x9_1).f1), .slice A370_2 ((rd_T24 l0_2 x9_1).f2).length c370_2] 24 (0, 0)) (by (with_reducible repeat (first | refine blk_drewN ?_ _ | refine blk_drew ?_ | refine blk_alloc ?_ _)); refine blk_put (cs := #[.int .i64 ((rd_T24 l0_2 x9_1).f0), .int .i64 ((rd_T24 l0_2 x9_1).f1), .slice none 0 0]) ?_ 2 _ rfl; (with_reducible repeat (first | refine blk_drewN ?_ _ | refine blk_drew ?_ | refine blk_alloc ?_ _)); refine blk_put (cs := #[.int .i64 ((rd_T24 l0_2 x9_1).f0), .int .i64 0, .slice none 0 0]) ?_ 1 _ rfl; (with_reducible repeat (first | refine blk_drewN ?_ _ | refine blk_drew ?_ | refine blk_alloc ?_ _)); refine blk_put (cs := #[.int .i64 0, .int .i64 0, .slice none 0 0]) ?_ 0 _ rfl; (with_reducible repeat (first | refine blk_drewN ?_ _ | refine blk_drew ?_ | refine blk_alloc ?_ _)); exact BK371.out) hb); have n2_ := Aside0.mk (below_step (bB) hb); clear BK369; clear BK371; clear HB; have BK369 := n0_; have BK371 := n1_; have HB := n2_; clear n0_ n1_ n2_; (try clear hb); (try clear hb2); (try clear hk); (try clear hi)))
      (first | go_roundg k1 | ((simp only [add_plain] at *); go_roundg k1))
      case measure => have := HK1.out; omega
      case rel => exact ⟨(wrap64 (x3_1 + t372)), (wrap64 (x9_1 + 1)), (by first | rfl | (simp; done) | (simp [*]; done)), (by first | rfl | (simp; done) | (simp [*]; done)), H', ⟨by have := HK1.out; omega⟩, ⟨bK⟩, ⟨bB⟩⟩
     ·rw [if_neg c6] at H
      exact absurd H (by simp)
    ·rw [if_neg c5] at H
     exact absurd H (by simp)
   ·rw [if_neg c4] at H
    have c4b0 : decide (x9_1 < (l0_2.length : Int)) = false := decide_eq_false c4
    clear c4
    obtain rfl := Option.some.inj H
    go_wp2
    go_ret
    exact ⟨by first | rfl | (simp [errW_none, errW_some] <;> rfl) | (simp [*, errW_none, errW_some] <;> rfl), bB⟩
end Go.Proofs.Ytjofkebiacaciaa.PAll
end
section
namespace Go.Proofs.Ytjofkebiacaciaa.PAll
open Go.RowKit Go.Proofs.YtjofkebiacaciaaW.PrintWords Go.Proofs.YtjofkebiacaciaaW.PrintLast Go.Proofs.YtjofkebiacaciaaW.PrintMore
attribute [local go_sem] max2_int min2_int max_two min_two max_three min_three max_four min_four
set_option linter.unusedVariables false
set_option linter.unusedSimpArgs false
def expr_Size.f (k : Nat) (a0_0 : Int) (a0_1 : Int) (l0_2 : List (S24)) : Option (Int) := (expr_valid.f k a0_0 a0_1 l0_2).bind fun t374 => (if t374 = true then ((expr_size.f k a0_0 a0_1 l0_2).bind fun t375 => (some t375)) else (some 0))
theorem expr_Size.mono : ∀ a0 a1 a2 k, LeO (expr_Size.f k a0 a1 a2) (expr_Size.f (k + 1) a0 a1 a2) := by
 intro a0 a1 a2 k
 unfold expr_Size.f
 repeat' first
   | (with_reducible exact expr_size.mono _ _ _ _)
   | (with_reducible exact expr_valid.mono _ _ _ _)
   | (with_reducible exact LeO.refl _)
   | (with_reducible exact LeO.none _)
   | (with_reducible refine LeO.ite ?_ ?_)
   | (with_reducible refine LeO.bind ?_ (fun _ => ?_))
   | exact expr_size.mono _ _ _ _
   | exact expr_valid.mono _ _ _ _
   | exact LeO.none _
   | refine LeO.ite ?_ ?_
   | refine LeO.bind ?_ (fun _ => ?_)
set_option maxHeartbeats 8000000 in
set_option maxRecDepth 100000 in
theorem expr_Size.calls (k : Nat) (a0_0 : Int) (a0_1 : Int) (A0_2 : Option Addr) (c0_2 : Nat) (l0_2 : List (S24)) (r : Int) (w : World) (hr0_2 : Kd.C k24 w A0_2 l0_2.length l0_2) (hc0_2 : l0_2.length ≤ c0_2) (h : expr_Size.f k a0_0 a0_1 l0_2 = some r) :
  Calls Try.prog 25 #[.agg #[.int .i64 a0_0, .int .i64 a0_1, .slice A0_2 l0_2.length c0_2]] w fun e w' => e = .returned (.int .i64 r) ∧ Below w.heap.size w w' := by
 have hu24 := Try.underlying24
 have HR0_2 := Aside0.mk hr0_2
 have HC0_2 := Aside0.mk hc0_2
 clear hr0_2 hc0_2
 have HB := Aside0.mk (Below.refl w.heap.size w)
 have H : ((expr_valid.f k a0_0 a0_1 l0_2).bind fun t374 => (if t374 = true then ((expr_size.f k a0_0 a0_1 l0_2).bind fun t375 => (some t375)) else (some 0))) = some r := h
 clear h
 replace H := Option.bind_eq_some_iff.mp H
 obtain ⟨t374, A20, H⟩ := H
 replace H : (if t374 = true then ((expr_size.f k a0_0 a0_1 l0_2).bind fun t375 => (some t375)) else (some 0)) = some r := H
 have A2 := Aside0.mk A20
 clear A20
 by_cases c3 : t374 = true
 ·subst c3
  have H1 : ((expr_size.f k a0_0 a0_1 l0_2).bind fun t375 => (some t375)) = some r := by rw [if_pos rfl] at H; exact H
  clear H
  have H := H1
  clear H1
  replace H := Option.bind_eq_some_iff.mp H
  obtain ⟨t375, A40, H⟩ := H
  replace H : (some t375) = some r := H
  have A4 := Aside0.mk A40
  clear A40
  obtain rfl := Option.some.inj H
  go_enter Try.func25, Try.ntmps25
  go_wp2_with (first | ((with_reducible refine gate_dst (N := 1) rfl ?_); refine box_event ?hg (N := 1) ?hd (cs := #[.int .i64 a0_0, .int .i64 a0_1, .slice A0_2 l0_2.length c0_2]) (t := 24) ?hr ?_; (case hd => rfl); (case hg => rfl); (case hr => first | (go_simp; done) | (go_simp; rfl)); intro gb373 hg w5 hbox hb; have n0_ := Aside0.mk (below_step (bB) hb); have n1_ := Aside0.mk (hbox); have n2_ := Aside0.mk ((by rw [hg]; exact (below_size (bB)) : w.heap.size ≤ gb373)); have n3_ := Aside0.mk ((by rw [hg]; exact (below_size (bB)) : w.heap.size ≤ gb373)); clear HB; have HB := n0_; have BK373 := n1_; have GW373 := n2_; have GE373 := n3_; clear n0_ n1_ n2_ n3_; clear hb hbox hg; have hcz6_0 : w5.cell? ⟨gb373, 0, none⟩ = some (.int .i64 a0_0) := (blk_cell BK373.out 0).trans rfl; have hcz6_1 : w5.cell? ⟨gb373, 1, none⟩ = some (.int .i64 a0_1) := (blk_cell BK373.out 1).trans rfl; have hcz6_2 : w5.cell? ⟨gb373, 2, none⟩ = some (.slice A0_2 l0_2.length c0_2) := (blk_cell BK373.out 2).trans rfl; have hfz6_0 := blk_frozen BK373.out 0; have hfz6_1 := blk_frozen BK373.out 1; have hfz6_2 := blk_frozen BK373.out 2) | ((with_reducible refine gate_callee (f := 46) rfl ?_); refine goesL_ (some 4) rfl rfl Try.func46 (by kernel_rfl) rfl #[.agg #[.int .i64 a0_0, .int .i64 a0_1, .slice A0_2 l0_2.length c0_2]] rfl (by (try simp only [List.map_toArray, List.map_cons, List.map_nil]); first | done | rfl | (simp only [List.length_drop, List.length_take]; rfl) | (simp only [Int.ofNat_lt, Int.ofNat_le]; rfl)) ?_; (with_reducible refine (expr_valid.calls k a0_0 a0_1 _ _ l0_2 true _ ?side1 ?side2 A2.out).mono ?_); (case side1 => repeat (first | exact (Kd.C_below HR0_2.out HB.out) | (with_reducible refine Kd.C_alloc ?_ _) | (with_reducible refine Kd.C_drewN ?_ _) | (with_reducible refine Kd.C_drew ?_))); (case side2 => exact HC0_2.out); rintro e w7 ⟨rfl, hb⟩; refine ⟨_, rfl, ?_⟩; have n0_ := Aside0.mk (blk_below (g := gb373) (o := .cells #[.int .i64 a0_0, .int .i64 a0_1, .slice A0_2 l0_2.length c0_2] 24 (0, 0)) (bK) hb); have n1_ := Aside0.mk (below_step (bB) hb); clear BK373; clear HB; have BK373 := n0_; have HB := n1_; clear n0_ n1_; (try clear hb); (try clear hb2); (try clear hk); (try clear hi); have hcz8_0 : w7.cell? ⟨gb373, 0, none⟩ = some (.int .i64 a0_0) := (blk_cell BK373.out 0).trans rfl; have hcz8_1 : w7.cell? ⟨gb373, 1, none⟩ = some (.int .i64 a0_1) := (blk_cell BK373.out 1).trans rfl; have hcz8_2 : w7.cell? ⟨gb373, 2, none⟩ = some (.slice A0_2 l0_2.length c0_2) := (blk_cell BK373.out 2).trans rfl; have hfz8_0 := blk_frozen BK373.out 0; have hfz8_1 := blk_frozen BK373.out 1; have hfz8_2 := blk_frozen BK373.out 2) | ((with_reducible refine gate_callee (f := 54) rfl ?_); refine goesL_ (some 7) rfl rfl Try.func54 (by kernel_rfl) rfl #[.agg #[.int .i64 a0_0, .int .i64 a0_1, .slice A0_2 l0_2.length c0_2]] rfl (by (try simp only [List.map_toArray, List.map_cons, List.map_nil]); first | done | rfl | (simp only [List.length_drop, List.length_take]; rfl) | (simp only [Int.ofNat_lt, Int.ofNat_le]; rfl)) ?_; (with_reducible refine (expr_size.calls k a0_0 a0_1 _ _ l0_2 t375 _ ?side1 ?side2 A4.out).mono ?_); (case side1 => repeat (first | exact (Kd.C_below HR0_2.out HB.out) | (with_reducible refine Kd.C_alloc ?_ _) | (with_reducible refine Kd.C_drewN ?_ _) | (with_reducible refine Kd.C_drew ?_))); (case side2 => exact HC0_2.out); rintro e w9 ⟨rfl, hb⟩; refine ⟨_, rfl, ?_⟩; have n0_ := Aside0.mk (blk_below (g := gb373) (o := .cells #[.int .i64 a0_0, .int .i64 a0_1, .slice A0_2 l0_2.length c0_2] 24 (0, 0)) (bK) hb); have n1_ := Aside0.mk (below_step (bB) hb); clear BK373; clear HB; have BK373 := n0_; have HB := n1_; clear n0_ n1_; (try clear hb); (try clear hb2); (try clear hk); (try clear hi)))
  go_ret
  exact ⟨by first | rfl | (simp [errW_none, errW_some] <;> rfl) | (simp [*, errW_none, errW_some] <;> rfl), bB⟩
 ·replace c3 := Bool.eq_false_iff.mpr c3
  subst c3
  have H1 : (some 0) = some r := by rw [if_neg (show ¬ (false = true) by decide)] at H; exact H
  clear H
  have H := H1
  clear H1
  obtain rfl := Option.some.inj H
  go_enter Try.func25, Try.ntmps25
  go_wp2_with (first | ((with_reducible refine gate_dst (N := 1) rfl ?_); refine box_event ?hg (N := 1) ?hd (cs := #[.int .i64 a0_0, .int .i64 a0_1, .slice A0_2 l0_2.length c0_2]) (t := 24) ?hr ?_; (case hd => rfl); (case hg => rfl); (case hr => first | (go_simp; done) | (go_simp; rfl)); intro gb373 hg w10 hbox hb; have n0_ := Aside0.mk (below_step (bB) hb); have n1_ := Aside0.mk (hbox); have n2_ := Aside0.mk ((by rw [hg]; exact (below_size (bB)) : w.heap.size ≤ gb373)); have n3_ := Aside0.mk ((by rw [hg]; exact (below_size (bB)) : w.heap.size ≤ gb373)); clear HB; have HB := n0_; have BK373 := n1_; have GW373 := n2_; have GE373 := n3_; clear n0_ n1_ n2_ n3_; clear hb hbox hg; have hcz11_0 : w10.cell? ⟨gb373, 0, none⟩ = some (.int .i64 a0_0) := (blk_cell BK373.out 0).trans rfl; have hcz11_1 : w10.cell? ⟨gb373, 1, none⟩ = some (.int .i64 a0_1) := (blk_cell BK373.out 1).trans rfl; have hcz11_2 : w10.cell? ⟨gb373, 2, none⟩ = some (.slice A0_2 l0_2.length c0_2) := (blk_cell BK373.out 2).trans rfl; have hfz11_0 := blk_frozen BK373.out 0; have hfz11_1 := blk_frozen BK373.out 1; have hfz11_2 := blk_frozen BK373.out 2) | ((with_reducible refine gate_callee (f := 46) rfl ?_); refine goesL_ (some 4) rfl rfl Try.func46 (by kernel_rfl) rfl #[.agg #[.int .i64 a0_0, .int .i64 a0_1, .slice A0_2 l0_2.length c0_2]] rfl (by (try simp only [List.map_toArray, List.map_cons, List.map_nil]); first | done | rfl | (simp only [List.length_drop, List.length_take]; rfl) | (simp only [Int.ofNat_lt, Int.ofNat_le]; rfl)) ?_; (with_reducible refine (expr_valid.calls k a0_0 a0_1 _ _ l0_2 false _ ?side1 ?side2 A2.out).mono ?_); (case side1 => repeat (first | exact (Kd.C_below HR0_2.out HB.out) | (with_reducible refine Kd.C_alloc ?_ _) | (with_reducible refine Kd.C_drewN ?_ _) | (with_reducible refine Kd.C_drew ?_))); (case side2 => exact HC0_2.out); rintro e w12 ⟨rfl, hb⟩; refine ⟨_, rfl, ?_⟩; have n0_ := Aside0.mk (blk_below (g := gb373) (o := .cells #[.int .i64 a0_0, .int .i64 a0_1, .slice A0_2 l0_2.length c0_2] 24 (0, 0)) (bK) hb); have n1_ := Aside0.mk (below_step (bB) hb); clear BK373; clear HB; have BK373 := n0_; have HB := n1_; clear n0_ n1_; (try clear hb); (try clear hb2); (try clear hk); (try clear hi)))
  go_ret
  exact ⟨by first | rfl | (simp [errW_none, errW_some] <;> rfl) | (simp [*, errW_none, errW_some] <;> rfl), bB⟩
end Go.Proofs.Ytjofkebiacaciaa.PAll
end
section
namespace Go.Proofs.Ytjofkebiacaciaa.PAll
open Go.RowKit Go.Proofs.YtjofkebiacaciaaW.PrintWords Go.Proofs.YtjofkebiacaciaaW.PrintLast Go.Proofs.YtjofkebiacaciaaW.PrintMore
attribute [local go_sem] max2_int min2_int max_two min_two max_three min_three max_four min_four
set_option linter.unusedVariables false
set_option linter.unusedSimpArgs false
mutual
def expr_depth.l0 : Nat → Int → List (S24) → Int → Int → Option (Int)
 | 0, _, _, _, _ => none
 | k + 1, x3, x7, x8, x9 => if x9 < x8 then (if 0 ≤ x9 then (if x9 < (x7.length : Int) then ((expr_depth.f k ((rd_T24 x7 x9).f0) ((rd_T24 x7 x9).f1) ((rd_T24 x7 x9).f2)).bind fun t379 => (expr_depth.l0 k (mx x3 t379) x7 x8 (wrap64 (x9 + 1)))) else (none)) else (none)) else (some (wrap64 (x3 + 1)))
def expr_depth.f : Nat → Int → Int → List (S24) → Option (Int)
 | 0, _, _, _ => none
 | k + 1, a0_0, a0_1, l0_2 => expr_depth.l0 k 0 l0_2 (l0_2.length : Int) 0
end
theorem expr_depth.mono_l : ∀ k, (∀ y0 y1 y2, LeO (expr_depth.f k y0 y1 y2) (expr_depth.f (k + 1) y0 y1 y2)) ∧ (∀ y0 y1 y2 y3, LeO (expr_depth.l0 k y0 y1 y2 y3) (expr_depth.l0 (k + 1) y0 y1 y2 y3))
 | 0 => ⟨fun _ _ _ r h => by simp [expr_depth.f] at h, fun _ _ _ _ r h => by simp [expr_depth.l0] at h⟩
 | k + 1 => by
  obtain ⟨ih0, ih1⟩ := expr_depth.mono_l k
  refine ⟨?_, ?_⟩
  ·intro y0 y1 y2
   unfold expr_depth.f
   repeat' first
   | (with_reducible exact ih0 _ _ _)
   | (with_reducible exact ih1 _ _ _ _)
   | (with_reducible exact LeO.refl _)
   | (with_reducible exact LeO.none _)
   | (with_reducible refine LeO.ite ?_ ?_)
   | (with_reducible refine LeO.bind ?_ (fun _ => ?_))
   | exact ih0 _ _ _
   | exact ih1 _ _ _ _
   | exact LeO.none _
   | refine LeO.ite ?_ ?_
   | refine LeO.bind ?_ (fun _ => ?_)
  ·intro y0 y1 y2 y3
   unfold expr_depth.l0
   repeat' first
   | (with_reducible exact ih0 _ _ _)
   | (with_reducible exact ih1 _ _ _ _)
   | (with_reducible exact LeO.refl _)
   | (with_reducible exact LeO.none _)
   | (with_reducible refine LeO.ite ?_ ?_)
   | (with_reducible refine LeO.bind ?_ (fun _ => ?_))
   | exact ih0 _ _ _
   | exact ih1 _ _ _ _
   | exact LeO.none _
   | refine LeO.ite ?_ ?_
   | refine LeO.bind ?_ (fun _ => ?_)
theorem expr_depth.mono : ∀ a0 a1 a2 k, LeO (expr_depth.f k a0 a1 a2) (expr_depth.f (k + 1) a0 a1 a2) := by
 intro a0 a1 a2 k
 obtain ⟨ih0, ih1⟩ := expr_depth.mono_l k
 exact ih0 a0 a1 a2
set_option maxHeartbeats 8000000 in
set_option maxRecDepth 100000 in
theorem expr_depth.calls (k : Nat) : ∀ (a0_0 : Int) (a0_1 : Int) (A0_2 : Option Addr) (c0_2 : Nat) (l0_2 : List (S24)) (r : Int) (w : World) (hr0_2 : Kd.C k24 w A0_2 l0_2.length l0_2) (hc0_2 : l0_2.length ≤ c0_2) (h : expr_depth.f k a0_0 a0_1 l0_2 = some r),
  Calls Try.prog 55 #[.agg #[.int .i64 a0_0, .int .i64 a0_1, .slice A0_2 l0_2.length c0_2]] w fun e w' => e = .returned (.int .i64 r) ∧ Below w.heap.size w w' := by
 induction k using Nat.strongRecOn with
 | _ k ih =>
 intro a0_0 a0_1 A0_2 c0_2 l0_2 r w hr0_2 hc0_2 h
 cases k with
 | zero => exact absurd h (by simp [expr_depth.f])
 | succ k =>
 simp only [expr_depth.f] at h
 have hu24 := Try.underlying24
 have HR0_2 := Aside0.mk hr0_2
 have HC0_2 := Aside0.mk hc0_2
 clear hr0_2 hc0_2
 have HB := Aside0.mk (Below.refl w.heap.size w)
 have H : (expr_depth.l0 k 0 l0_2 (l0_2.length : Int) 0) = some r := h
 clear h
 have H' := Aside0.mk H
 clear H
 go_enter Try.func55, Try.ntmps55
 go_wp2_with (first | ((with_reducible refine gate_dst (N := 1) rfl ?_); refine box_event ?hg (N := 1) ?hd (cs := #[.int .i64 a0_0, .int .i64 a0_1, .slice A0_2 l0_2.length c0_2]) (t := 24) ?hr ?_; (case hd => rfl); (case hg => rfl); (case hr => first | (go_simp; done) | (go_simp; rfl)); intro gb376 hg w2 hbox hb; have n0_ := Aside0.mk (below_step (bB) hb); have n1_ := Aside0.mk (hbox); have n2_ := Aside0.mk ((by rw [hg]; exact (below_size (bB)) : w.heap.size ≤ gb376)); have n3_ := Aside0.mk ((by rw [hg]; exact (below_size (bB)) : w.heap.size ≤ gb376)); clear HB; have HB := n0_; have BK376 := n1_; have GW376 := n2_; have GE376 := n3_; clear n0_ n1_ n2_ n3_; clear hb hbox hg; have hcz3_0 : w2.cell? ⟨gb376, 0, none⟩ = some (.int .i64 a0_0) := (blk_cell BK376.out 0).trans rfl; have hcz3_1 : w2.cell? ⟨gb376, 1, none⟩ = some (.int .i64 a0_1) := (blk_cell BK376.out 1).trans rfl; have hcz3_2 : w2.cell? ⟨gb376, 2, none⟩ = some (.slice A0_2 l0_2.length c0_2) := (blk_cell BK376.out 2).trans rfl; have hfz3_0 := blk_frozen BK376.out 0; have hfz3_1 := blk_frozen BK376.out 1; have hfz3_2 := blk_frozen BK376.out 2))
 go_loopg [3, 9] k (fun kq v3 v9 w' => ∃ (x3_1 : Int) (x9_1 : Int), v3 = .int .i64 x3_1 ∧ v9 = .int .i64 x9_1 ∧ Aside0 (expr_depth.l0 kq x3_1 l0_2 (l0_2.length : Int) x9_1 = some r) ∧ Aside0 (kq ≤ k) ∧ Aside0 (w'.heap[gb376]? = some (.cells #[.int .i64 a0_0, .int .i64 a0_1, (.slice A0_2 l0_2.length c0_2)] 24 (0, 0))) ∧ Aside0 (Below w.heap.size w w'))
 case atStart => exact ⟨(0), (0), (by first | rfl | (simp; done) | (simp [*]; done)), (by first | rfl | (simp; done) | (simp [*]; done)), H', ⟨Nat.le_refl _⟩, ⟨bK⟩, ⟨bB⟩⟩
 case round =>
  clear H'
  try clear p2
  try clear hcz3_0
  try clear hcz3_1
  try clear hcz3_2
  try clear hfz3_0
  try clear hfz3_1
  try clear hfz3_2
  obtain ⟨x3_1, x9_1, rfl, rfl, HA, HK1, BK376, HB⟩ := hrel
  cases gk with
  | zero => exact absurd HA.out (by simp [expr_depth.l0])
  | succ k1 =>
   have H := HA.out
   clear HA
   simp only [expr_depth.l0] at H
   by_cases c4 : x9_1 < (l0_2.length : Int)
   ·rw [if_pos c4] at H
    have c4b0 : decide (x9_1 < (l0_2.length : Int)) = true := decide_eq_true c4
    clear c4
    by_cases c5 : 0 ≤ x9_1
    ·rw [if_pos c5] at H
     have c5b0 : decide (0 ≤ x9_1) = true := decide_eq_true c5
     clear c5
     by_cases c6 : x9_1 < (l0_2.length : Int)
     ·rw [if_pos c6] at H
      have c6b0 : decide (x9_1 < (l0_2.length : Int)) = true := decide_eq_true c6
      clear c6
      replace H := Option.bind_eq_some_iff.mp H
      obtain ⟨t379, A70, H⟩ := H
      replace H : (expr_depth.l0 k1 (mx x3_1 t379) l0_2 (l0_2.length : Int) (wrap64 (x9_1 + 1))) = some r := H
      have A7 := Aside0.mk A70
      clear A70
      obtain ⟨ji8, hji8⟩ : ∃ j_ : Int, (mx x3_1 t379) = j_ := ⟨_, rfl⟩
      replace H : (expr_depth.l0 k1 ji8 l0_2 (l0_2.length : Int) (wrap64 (x9_1 + 1))) = some r := by first | (rw [hji8] at H; exact H) | (simp only [hji8] at H ⊢; exact H)
      (try rw [hji8] at A7)
      have hji8_ : (if x3_1 < t379 then t379 else x3_1) = ji8 := hji8
      have H' := Aside0.mk H
      clear H
      have p377 : 0 ≤ (x9_1 : Int) := of_decide_eq_true (by first | (with_reducible assumption) | assumption)
      have q377 : x9_1 < (l0_2.length : Int) := of_decide_eq_true (by first | (with_reducible assumption) | assumption)
      obtain ⟨ad377, A377_2, c377_2, e377, hx377_0, hx377_1, hx377_2, hl377_2, hi377_2⟩ := at_T24 HR0_2.out x9_1 p377 q377
      cases e377
      replace hx377_0 := (HB.out.cell (World.block_lt_of_cell? w _ hx377_0)).trans hx377_0
      replace hx377_1 := (HB.out.cell (World.block_lt_of_cell? w _ hx377_1)).trans hx377_1
      replace hx377_2 := (HB.out.cell (World.block_lt_of_cell? w _ hx377_2)).trans hx377_2
      have HR377_2 := Aside0.mk hi377_2
      have HC377_2 := Aside0.mk hl377_2
      clear hi377_2 hl377_2
      replace p377 := eq_true p377
      replace q377 := eq_true q377
      go_wp2_with (first | ((with_reducible refine gate_dst (N := 5) rfl ?_); refine box_event ?hg (N := 5) ?hd (cs := #[.int .i64 0, .int .i64 0, .slice none 0 0]) (t := 24) ?hr ?_; (case hd => rfl); (case hg => rfl); (case hr => first | (go_simp; done) | (go_simp; rfl)); intro gb378 hg w9 hbox hb; have n0_ := Aside0.mk (blk_below (g := gb376) (o := .cells #[.int .i64 a0_0, .int .i64 a0_1, .slice (some ad377) l0_2.length c0_2] 24 (0, 0)) (bK) hb); have n1_ := Aside0.mk (below_step (bB) hb); have n2_ := Aside0.mk (hbox); have n3_ := Aside0.mk ((by rw [hg]; exact (below_size (bB)) : w.heap.size ≤ gb378)); have n4_ := Aside0.mk ((by rw [hg]; exact (below_size (bB)) : w.heap.size ≤ gb378)); have n5_ := Aside0.mk ((by rw [hg]; exact Nat.ne_of_lt (blk_lt (g := gb376) (o := .cells #[.int .i64 a0_0, .int .i64 a0_1, .slice (some ad377) l0_2.length c0_2] 24 (0, 0)) (bK)) : gb376 ≠ gb378)); have n6_ := Aside0.mk ((by rw [hg]; exact Nat.ne_of_gt (blk_lt (g := gb376) (o := .cells #[.int .i64 a0_0, .int .i64 a0_1, .slice (some ad377) l0_2.length c0_2] 24 (0, 0)) (bK)) : gb378 ≠ gb376)); clear BK376; clear HB; have BK376 := n0_; have HB := n1_; have BK378 := n2_; have GW378 := n3_; have GE378 := n4_; have NB376_378 := n5_; have NB378_376 := n6_; clear n0_ n1_ n2_ n3_ n4_ n5_ n6_; clear hb hbox hg; have hnb10 := NB378_376.out; have hnc10 := NB376_378.out; have hcz11_0 : w9.cell? ⟨gb378, 0, none⟩ = some (.int .i64 0) := (blk_cell BK378.out 0).trans rfl; have hcz11_1 : w9.cell? ⟨gb378, 1, none⟩ = some (.int .i64 0) := (blk_cell BK378.out 1).trans rfl; have hcz11_2 : w9.cell? ⟨gb378, 2, none⟩ = some (.slice none 0 0) := (blk_cell BK378.out 2).trans rfl; have hfz11_0 := blk_frozen BK378.out 0; have hfz11_1 := blk_frozen BK378.out 1; have hfz11_2 := blk_frozen BK378.out 2) | ((with_reducible refine gate_callee (f := 55) rfl ?_); refine goesL_ (some 15) rfl rfl Try.func55 (by kernel_rfl) rfl #[.agg #[.int .i64 ((rd_T24 l0_2 x9_1).f0), .int .i64 ((rd_T24 l0_2 x9_1).f1), .slice A377_2 ((rd_T24 l0_2 x9_1).f2).length c377_2]] rfl (by (try simp only [List.map_toArray, List.map_cons, List.map_nil]); first | done | rfl | (simp only [List.length_drop, List.length_take]; rfl) | (simp only [Int.ofNat_lt, Int.ofNat_le]; rfl)) ?_; (with_reducible refine (ih k1 (by have := HK1.out; omega) ((rd_T24 l0_2 x9_1).f0) ((rd_T24 l0_2 x9_1).f1) _ _ ((rd_T24 l0_2 x9_1).f2) t379 _ ?side1 ?side2 A7.out).mono ?_); (case side1 => exact Kd.C_below HR377_2.out (bB)); (case side2 => exact HC377_2.out); rintro e w12 ⟨rfl, hb⟩; refine ⟨_, rfl, ?_⟩; have n0_ := Aside0.mk (blk_below (g := gb376) (o := .cells #[.int .i64 a0_0, .int .i64 a0_1, .slice (some ad377) l0_2.length c0_2] 24 (0, 0)) (by (with_reducible repeat (first | refine blk_drewN ?_ _ | refine blk_drew ?_ | refine blk_alloc ?_ _)); refine blk_far ?_ NB376_378.out _; (with_reducible repeat (first | refine blk_drewN ?_ _ | refine blk_drew ?_ | refine blk_alloc ?_ _)); refine blk_far ?_ NB376_378.out _; (with_reducible repeat (first | refine blk_drewN ?_ _ | refine blk_drew ?_ | refine blk_alloc ?_ _)); refine blk_far ?_ NB376_378.out _; (with_reducible repeat (first | refine blk_drewN ?_ _ | refine blk_drew ?_ | refine blk_alloc ?_ _)); exact BK376.out) hb); have n1_ := Aside0.mk (blk_below (g := gb378) (o := .cells #[.int .i64 ((rd_T24 l0_2 x9_1).f0), .int .i64 ((rd_T24 l0_2 x9_1).f1), .slice A377_2 ((rd_T24 l0_2 x9_1).f2).length c377_2] 24 (0, 0)) (by (with_reducible repeat (first | refine blk_drewN ?_ _ | refine blk_drew ?_ | refine blk_alloc ?_ _)); refine blk_put (cs := #[.int .i64 ((rd_T24 l0_2 x9_1).f0), .int .i64 ((rd_T24 l0_2 x9_1).f1), .slice none 0 0]) ?_ 2 _ rfl; (with_reducible repeat (first | refine blk_drewN ?_ _ | refine blk_drew ?_ | refine blk_alloc ?_ _)); refine blk_put (cs := #[.int .i64 ((rd_T24 l0_2 x9_1).f0), .int .i64 0, .slice none 0 0]) ?_ 1 _ rfl; (with_reducible repeat (first | refine blk_drewN ?_ _ | refine blk_drew ?_ | refine blk_alloc ?_ _)); refine blk_put (cs := #[.int .i64 0, .int .i64 0, .slice none 0 0]) ?_ 0 _ rfl; (with_reducible repeat (first | refine blk_drewN ?_ _ | refine blk_drew ?_ | refine blk_alloc ?_ _)); exact BK378.out) hb); have n2_ := Aside0.mk (below_step (bB) hb); clear BK376; clear BK378; clear HB; have BK376 := n0_; have BK378 := n1_; have HB := n2_; clear n0_ n1_ n2_; (try clear hb); (try clear hb2); (try clear hk); (try clear hi)))
      (first | go_roundg k1 | ((simp only [add_plain] at *); go_roundg k1))
      case measure => have := HK1.out; omega
      case rel => exact ⟨(ji8), (wrap64 (x9_1 + 1)), (by first | rfl | (simp; done) | (simp only [← hji8] <;> (first | rfl | simp)) | (simp [*]; done)), (by first | rfl | (simp; done) | (simp [*]; done)), H', ⟨by have := HK1.out; omega⟩, ⟨bK⟩, ⟨bB⟩⟩
     ·rw [if_neg c6] at H
      exact absurd H (by simp)
    ·rw [if_neg c5] at H
     exact absurd H (by simp)
   ·rw [if_neg c4] at H
    have c4b0 : decide (x9_1 < (l0_2.length : Int)) = false := decide_eq_false c4
    clear c4
    obtain rfl := Option.some.inj H
    go_wp2
    go_ret
    exact ⟨by first | rfl | (simp [errW_none, errW_some] <;> rfl) | (simp [*, errW_none, errW_some] <;> rfl), bB⟩
end Go.Proofs.Ytjofkebiacaciaa.PAll
end
section
namespace Go.Proofs.Ytjofkebiacaciaa.PAll
open Go.RowKit Go.Proofs.YtjofkebiacaciaaW.PrintWords Go.Proofs.YtjofkebiacaciaaW.PrintLast Go.Proofs.YtjofkebiacaciaaW.PrintMore
attribute [local go_sem] max2_int min2_int max_two min_two max_three min_three max_four min_four
set_option linter.unusedVariables false
set_option linter.unusedSimpArgs false
def expr_Depth.f (k : Nat) (a0_0 : Int) (a0_1 : Int) (l0_2 : List (S24)) : Option (Int) := (expr_valid.f k a0_0 a0_1 l0_2).bind fun t381 => (if t381 = true then ((expr_depth.f k a0_0 a0_1 l0_2).bind fun t382 => (some t382)) else (some 0))
theorem expr_Depth.mono : ∀ a0 a1 a2 k, LeO (expr_Depth.f k a0 a1 a2) (expr_Depth.f (k + 1) a0 a1 a2) := by
 intro a0 a1 a2 k
 unfold expr_Depth.f
 repeat' first
   | (with_reducible exact expr_depth.mono _ _ _ _)
   | (with_reducible exact expr_valid.mono _ _ _ _)
   | (with_reducible exact LeO.refl _)
   | (with_reducible exact LeO.none _)
   | (with_reducible refine LeO.ite ?_ ?_)
   | (with_reducible refine LeO.bind ?_ (fun _ => ?_))
   | exact expr_depth.mono _ _ _ _
   | exact expr_valid.mono _ _ _ _
   | exact LeO.none _
   | refine LeO.ite ?_ ?_
   | refine LeO.bind ?_ (fun _ => ?_)
set_option maxHeartbeats 8000000 in
set_option maxRecDepth 100000 in
theorem expr_Depth.calls (k : Nat) (a0_0 : Int) (a0_1 : Int) (A0_2 : Option Addr) (c0_2 : Nat) (l0_2 : List (S24)) (r : Int) (w : World) (hr0_2 : Kd.C k24 w A0_2 l0_2.length l0_2) (hc0_2 : l0_2.length ≤ c0_2) (h : expr_Depth.f k a0_0 a0_1 l0_2 = some r) :
  Calls Try.prog 26 #[.agg #[.int .i64 a0_0, .int .i64 a0_1, .slice A0_2 l0_2.length c0_2]] w fun e w' => e = .returned (.int .i64 r) ∧ Below w.heap.size w w' := by
 have hu24 := Try.underlying24
 have HR0_2 := Aside0.mk hr0_2
 have HC0_2 := Aside0.mk hc0_2
 clear hr0_2 hc0_2
 have HB := Aside0.mk (Below.refl w.heap.size w)
 have H : ((expr_valid.f k a0_0 a0_1 l0_2).bind fun t381 => (if t381 = true then ((expr_depth.f k a0_0 a0_1 l0_2).bind fun t382 => (some t382)) else (some 0))) = some r := h
 clear h
 replace H := Option.bind_eq_some_iff.mp H
 obtain ⟨t381, A20, H⟩ := H
 replace H : (if t381 = true then ((expr_depth.f k a0_0 a0_1 l0_2).bind fun t382 => (some t382)) else (some 0)) = some r := H
 have A2 := Aside0.mk A20
 clear A20
 by_cases c3 : t381 = true
 ·subst c3
  have H1 : ((expr_depth.f k a0_0 a0_1 l0_2).bind fun t382 => (some t382)) = some r := by rw [if_pos rfl] at H; exact H
  clear H
  have H := H1
  clear H1
  replace H := Option.bind_eq_some_iff.mp H
  obtain ⟨t382, A40, H⟩ := H
  replace H : (some t382) = some r := H
  have A4 := Aside0.mk A40
  clear A40
  obtain rfl := Option.some.inj H
  go_enter Try.func26, Try.ntmps26
  go_wp2_with (first | ((with_reducible refine gate_dst (N := 1) rfl ?_); refine box_event ?hg (N := 1) ?hd (cs := #[.int .i64 a0_0, .int .i64 a0_1, .slice A0_2 l0_2.length c0_2]) (t := 24) ?hr ?_; (case hd => rfl); (case hg => rfl); (case hr => first | (go_simp; done) | (go_simp; rfl)); intro gb380 hg w5 hbox hb; have n0_ := Aside0.mk (below_step (bB) hb); have n1_ := Aside0.mk (hbox); have n2_ := Aside0.mk ((by rw [hg]; exact (below_size (bB)) : w.heap.size ≤ gb380)); have n3_ := Aside0.mk ((by rw [hg]; exact (below_size (bB)) : w.heap.size ≤ gb380)); clear HB; have HB := n0_; have BK380 := n1_; have GW380 := n2_; have GE380 := n3_; clear n0_ n1_ n2_ n3_; clear hb hbox hg; have hcz6_0 : w5.cell? ⟨gb380, 0, none⟩ = some (.int .i64 a0_0) := (blk_cell BK380.out 0).trans rfl; have hcz6_1 : w5.cell? ⟨gb380, 1, none⟩ = some (.int .i64 a0_1) := (blk_cell BK380.out 1).trans rfl; have hcz6_2 : w5.cell? ⟨gb380, 2, none⟩ = some (.slice A0_2 l0_2.length c0_2) := (blk_cell BK380.out 2).trans rfl; have hfz6_0 := blk_frozen BK380.out 0; have hfz6_1 := blk_frozen BK380.out 1; have hfz6_2 := blk_frozen BK380.out 2) | ((with_reducible refine gate_callee (f := 46) rfl ?_); refine goesL_ (some 4) rfl rfl Try.func46 (by kernel_rfl) rfl #[.agg #[.int .i64 a0_0, .int .i64 a0_1, .slice A0_2 l0_2.length c0_2]] rfl (by (try simp only [List.map_toArray, List.map_cons, List.map_nil]); first | done | rfl | (simp only [List.length_drop, List.length_take]; rfl) | (simp only [Int.ofNat_lt, Int.ofNat_le]; rfl)) ?_; (with_reducible refine (expr_valid.calls k a0_0 a0_1 _ _ l0_2 true _ ?side1 ?side2 A2.out).mono ?_); (case side1 => repeat (first | exact (Kd.C_below HR0_2.out HB.out) | (with_reducible refine Kd.C_alloc ?_ _) | (with_reducible refine Kd.C_drewN ?_ _) | (with_reducible refine Kd.C_drew ?_))); (case side2 => exact HC0_2.out); rintro e w7 ⟨rfl, hb⟩; refine ⟨_, rfl, ?_⟩; have n0_ := Aside0.mk (blk_below (g := gb380) (o := .cells #[.int .i64 a0_0, .int .i64 a0_1, .slice A0_2 l0_2.length c0_2] 24 (0, 0)) (bK) hb); have n1_ := Aside0.mk (below_step (bB) hb); clear BK380; clear HB; have BK380 := n0_; have HB := n1_; clear n0_ n1_; (try clear hb); (try clear hb2); (try clear hk); (try clear hi); have hcz8_0 : w7.cell? ⟨gb380, 0, none⟩ = some (.int .i64 a0_0) := (blk_cell BK380.out 0).trans rfl; have hcz8_1 : w7.cell? ⟨gb380, 1, none⟩ = some (.int .i64 a0_1) := (blk_cell BK380.out 1).trans rfl; have hcz8_2 : w7.cell? ⟨gb380, 2, none⟩ = some (.slice A0_2 l0_2.length c0_2) := (blk_cell BK380.out 2).trans rfl; have hfz8_0 := blk_frozen BK380.out 0; have hfz8_1 := blk_frozen BK380.out 1; have hfz8_2 := blk_frozen BK380.out 2) | ((with_reducible refine gate_callee (f := 55) rfl ?_); refine goesL_ (some 7) rfl rfl Try.func55 (by kernel_rfl) rfl #[.agg #[.int .i64 a0_0, .int .i64 a0_1, .slice A0_2 l0_2.length c0_2]] rfl (by (try simp only [List.map_toArray, List.map_cons, List.map_nil]); first | done | rfl | (simp only [List.length_drop, List.length_take]; rfl) | (simp only [Int.ofNat_lt, Int.ofNat_le]; rfl)) ?_; (with_reducible refine (expr_depth.calls k a0_0 a0_1 _ _ l0_2 t382 _ ?side1 ?side2 A4.out).mono ?_); (case side1 => repeat (first | exact (Kd.C_below HR0_2.out HB.out) | (with_reducible refine Kd.C_alloc ?_ _) | (with_reducible refine Kd.C_drewN ?_ _) | (with_reducible refine Kd.C_drew ?_))); (case side2 => exact HC0_2.out); rintro e w9 ⟨rfl, hb⟩; refine ⟨_, rfl, ?_⟩; have n0_ := Aside0.mk (blk_below (g := gb380) (o := .cells #[.int .i64 a0_0, .int .i64 a0_1, .slice A0_2 l0_2.length c0_2] 24 (0, 0)) (bK) hb); have n1_ := Aside0.mk (below_step (bB) hb); clear BK380; clear HB; have BK380 := n0_; have HB := n1_; clear n0_ n1_; (try clear hb); (try clear hb2); (try clear hk); (try clear hi)))
  go_ret
  exact ⟨by first | rfl | (simp [errW_none, errW_some] <;> rfl) | (simp [*, errW_none, errW_some] <;> rfl), bB⟩
 ·replace c3 := Bool.eq_false_iff.mpr c3
  subst c3
  have H1 : (some 0) = some r := by rw [if_neg (show ¬ (false = true) by decide)] at H; exact H
  clear H
  have H := H1
  clear H1
  obtain rfl := Option.some.inj H
  go_enter Try.func26, Try.ntmps26
  go_wp2_with (first | ((with_reducible refine gate_dst (N := 1) rfl ?_); refine box_event ?hg (N := 1) ?hd (cs := #[.int .i64 a0_0, .int .i64 a0_1, .slice A0_2 l0_2.length c0_2]) (t := 24) ?hr ?_; (case hd => rfl); (case hg => rfl); (case hr => first | (go_simp; done) | (go_simp; rfl)); intro gb380 hg w10 hbox hb; have n0_ := Aside0.mk (below_step (bB) hb); have n1_ := Aside0.mk (hbox); have n2_ := Aside0.mk ((by rw [hg]; exact (below_size (bB)) : w.heap.size ≤ gb380)); have n3_ := Aside0.mk ((by rw [hg]; exact (below_size (bB)) : w.heap.size ≤ gb380)); clear HB; have HB := n0_; have BK380 := n1_; have GW380 := n2_; have GE380 := n3_; clear n0_ n1_ n2_ n3_; clear hb hbox hg; have hcz11_0 : w10.cell? ⟨gb380, 0, none⟩ = some (.int .i64 a0_0) := (blk_cell BK380.out 0).trans rfl; have hcz11_1 : w10.cell? ⟨gb380, 1, none⟩ = some (.int .i64 a0_1) := (blk_cell BK380.out 1).trans rfl; have hcz11_2 : w10.cell? ⟨gb380, 2, none⟩ = some (.slice A0_2 l0_2.length c0_2) := (blk_cell BK380.out 2).trans rfl; have hfz11_0 := blk_frozen BK380.out 0; have hfz11_1 := blk_frozen BK380.out 1; have hfz11_2 := blk_frozen BK380.out 2) | ((with_reducible refine gate_callee (f := 46) rfl ?_); refine goesL_ (some 4) rfl rfl Try.func46 (by kernel_rfl) rfl #[.agg #[.int .i64 a0_0, .int .i64 a0_1, .slice A0_2 l0_2.length c0_2]] rfl (by (try simp only [List.map_toArray, List.map_cons, List.map_nil]); first | done | rfl | (simp only [List.length_drop, List.length_take]; rfl) | (simp only [Int.ofNat_lt, Int.ofNat_le]; rfl)) ?_; (with_reducible refine (expr_valid.calls k a0_0 a0_1 _ _ l0_2 false _ ?side1 ?side2 A2.out).mono ?_); (case side1 => repeat (first | exact (Kd.C_below HR0_2.out HB.out) | (with_reducible refine Kd.C_alloc ?_ _) | (with_reducible refine Kd.C_drewN ?_ _) | (with_reducible refine Kd.C_drew ?_))); (case side2 => exact HC0_2.out); rintro e w12 ⟨rfl, hb⟩; refine ⟨_, rfl, ?_⟩; have n0_ := Aside0.mk (blk_below (g := gb380) (o := .cells #[.int .i64 a0_0, .int .i64 a0_1, .slice A0_2 l0_2.length c0_2] 24 (0, 0)) (bK) hb); have n1_ := Aside0.mk (below_step (bB) hb); clear BK380; clear HB; have BK380 := n0_; have HB := n1_; clear n0_ n1_; (try clear hb); (try clear hb2); (try clear hk); (try clear hi)))
  go_ret
  exact ⟨by first | rfl | (simp [errW_none, errW_some] <;> rfl) | (simp [*, errW_none, errW_some] <;> rfl), bB⟩
end Go.Proofs.Ytjofkebiacaciaa.PAll
end
section
namespace Go.Proofs.Ytjofkebiacaciaa.PAll
open Go.RowKit Go.Proofs.YtjofkebiacaciaaW.PrintWords Go.Proofs.YtjofkebiacaciaaW.PrintLast Go.Proofs.YtjofkebiacaciaaW.PrintMore
attribute [local go_sem] max2_int min2_int max_two min_two max_three min_three max_four min_four
set_option linter.unusedVariables false
set_option linter.unusedSimpArgs false
mutual
def expr_height.l0 : Nat → Int → List (S24) → Int → Int → Int → Int → List (S24) → Option (Int)
 | 0, _, _, _, _, _, _, _ => none
 | k + 1, x3, x7, x8, x9, x384000, x384001, x384002 => if x9 < x8 then (if 0 ≤ x9 then (if x9 < (x7.length : Int) then ((expr_height.f k ((rd_T24 x7 x9).f0) ((rd_T24 x7 x9).f1) ((rd_T24 x7 x9).f2)).bind fun t386 => (expr_height.l0 k (mx x3 t386) x7 x8 (wrap64 (x9 + 1)) x384000 x384001 x384002)) else (none)) else (none)) else (if x384000 = 7 then (some (wrap64 (x3 + 1))) else (some x3))
def expr_height.f : Nat → Int → Int → List (S24) → Option (Int)
 | 0, _, _, _ => none
 | k + 1, a0_0, a0_1, l0_2 => expr_height.l0 k 0 l0_2 (l0_2.length : Int) 0 a0_0 a0_1 l0_2
end
theorem expr_height.mono_l : ∀ k, (∀ y0 y1 y2, LeO (expr_height.f k y0 y1 y2) (expr_height.f (k + 1) y0 y1 y2)) ∧ (∀ y0 y1 y2 y3 y4 y5 y6, LeO (expr_height.l0 k y0 y1 y2 y3 y4 y5 y6) (expr_height.l0 (k + 1) y0 y1 y2 y3 y4 y5 y6))
 | 0 => ⟨fun _ _ _ r h => by simp [expr_height.f] at h, fun _ _ _ _ _ _ _ r h => by simp [expr_height.l0] at h⟩
 | k + 1 => by
  obtain ⟨ih0, ih1⟩ := expr_height.mono_l k
  refine ⟨?_, ?_⟩
  ·intro y0 y1 y2
   unfold expr_height.f
   repeat' first
   | (with_reducible exact ih0 _ _ _)
   | (with_reducible exact ih1 _ _ _ _ _ _ _)
   | (with_reducible exact LeO.refl _)
   | (with_reducible exact LeO.none _)
   | (with_reducible refine LeO.ite ?_ ?_)
   | (with_reducible refine LeO.bind ?_ (fun _ => ?_))
   | exact ih0 _ _ _
   | exact ih1 _ _ _ _ _ _ _
   | exact LeO.none _
   | refine LeO.ite ?_ ?_
   | refine LeO.bind ?_ (fun _ => ?_)
  ·intro y0 y1 y2 y3 y4 y5 y6
   unfold expr_height.l0
   repeat' first
   | (with_reducible exact ih0 _ _ _)
   | (with_reducible exact ih1 _ _ _ _ _ _ _)
   | (with_reducible exact LeO.refl _)
   | (with_reducible exact LeO.none _)
   | (with_reducible refine LeO.ite ?_ ?_)
   | (with_reducible refine LeO.bind ?_ (fun _ => ?_))
   | exact ih0 _ _ _
   | exact ih1 _ _ _ _ _ _ _
   | exact LeO.none _
   | refine LeO.ite ?_ ?_
   | refine LeO.bind ?_ (fun _ => ?_)
theorem expr_height.mono : ∀ a0 a1 a2 k, LeO (expr_height.f k a0 a1 a2) (expr_height.f (k + 1) a0 a1 a2) := by
 intro a0 a1 a2 k
 obtain ⟨ih0, ih1⟩ := expr_height.mono_l k
 exact ih0 a0 a1 a2
set_option maxHeartbeats 8000000 in
set_option maxRecDepth 100000 in
theorem expr_height.calls (k : Nat) : ∀ (a0_0 : Int) (a0_1 : Int) (A0_2 : Option Addr) (c0_2 : Nat) (l0_2 : List (S24)) (r : Int) (w : World) (hr0_2 : Kd.C k24 w A0_2 l0_2.length l0_2) (hc0_2 : l0_2.length ≤ c0_2) (h : expr_height.f k a0_0 a0_1 l0_2 = some r),
  Calls Try.prog 56 #[.agg #[.int .i64 a0_0, .int .i64 a0_1, .slice A0_2 l0_2.length c0_2]] w fun e w' => e = .returned (.int .i64 r) ∧ Below w.heap.size w w' := by
 induction k using Nat.strongRecOn with
 | _ k ih =>
 intro a0_0 a0_1 A0_2 c0_2 l0_2 r w hr0_2 hc0_2 h
 cases k with
 | zero => exact absurd h (by simp [expr_height.f])
 | succ k =>
 simp only [expr_height.f] at h
 have hu24 := Try.underlying24
 have HR0_2 := Aside0.mk hr0_2
 have HC0_2 := Aside0.mk hc0_2
 clear hr0_2 hc0_2
 have HB := Aside0.mk (Below.refl w.heap.size w)
 have H : (expr_height.l0 k 0 l0_2 (l0_2.length : Int) 0 a0_0 a0_1 l0_2) = some r := h
 clear h
 have H' := Aside0.mk H
 clear H
 go_enter Try.func56, Try.ntmps56
 go_wp2_with (first | ((with_reducible refine gate_dst (N := 1) rfl ?_); refine box_event ?hg (N := 1) ?hd (cs := #[.int .i64 a0_0, .int .i64 a0_1, .slice A0_2 l0_2.length c0_2]) (t := 24) ?hr ?_; (case hd => rfl); (case hg => rfl); (case hr => first | (go_simp; done) | (go_simp; rfl)); intro gb383 hg w2 hbox hb; have n0_ := Aside0.mk (below_step (bB) hb); have n1_ := Aside0.mk (hbox); have n2_ := Aside0.mk ((by rw [hg]; exact (below_size (bB)) : w.heap.size ≤ gb383)); have n3_ := Aside0.mk ((by rw [hg]; exact (below_size (bB)) : w.heap.size ≤ gb383)); clear HB; have HB := n0_; have BK383 := n1_; have GW383 := n2_; have GE383 := n3_; clear n0_ n1_ n2_ n3_; clear hb hbox hg; have hcz3_0 : w2.cell? ⟨gb383, 0, none⟩ = some (.int .i64 a0_0) := (blk_cell BK383.out 0).trans rfl; have hcz3_1 : w2.cell? ⟨gb383, 1, none⟩ = some (.int .i64 a0_1) := (blk_cell BK383.out 1).trans rfl; have hcz3_2 : w2.cell? ⟨gb383, 2, none⟩ = some (.slice A0_2 l0_2.length c0_2) := (blk_cell BK383.out 2).trans rfl; have hfz3_0 := blk_frozen BK383.out 0; have hfz3_1 := blk_frozen BK383.out 1; have hfz3_2 := blk_frozen BK383.out 2))
 go_loopg [3, 9] k (fun kq v3 v9 w' => ∃ (x3_1 : Int) (x9_1 : Int), v3 = .int .i64 x3_1 ∧ v9 = .int .i64 x9_1 ∧ Aside0 (expr_height.l0 kq x3_1 l0_2 (l0_2.length : Int) x9_1 a0_0 a0_1 l0_2 = some r) ∧ Aside0 (kq ≤ k) ∧ Aside0 (w'.heap[gb383]? = some (.cells #[.int .i64 a0_0, .int .i64 a0_1, (.slice A0_2 l0_2.length c0_2)] 24 (0, 0))) ∧ Aside0 (Below w.heap.size w w'))
 case atStart => exact ⟨(0), (0), (by first | rfl | (simp; done) | (simp [*]; done)), (by first | rfl | (simp; done) | (simp [*]; done)), H', ⟨Nat.le_refl _⟩, ⟨bK⟩, ⟨bB⟩⟩
 case round =>
  clear H'
  try clear p2
  try clear hcz3_0
  try clear hcz3_1
  try clear hcz3_2
  try clear hfz3_0
  try clear hfz3_1
  try clear hfz3_2
  obtain ⟨x3_1, x9_1, rfl, rfl, HA, HK1, BK383, HB⟩ := hrel
  cases gk with
  | zero => exact absurd HA.out (by simp [expr_height.l0])
  | succ k1 =>
   have H := HA.out
   clear HA
   simp only [expr_height.l0] at H
   by_cases c4 : x9_1 < (l0_2.length : Int)
   ·rw [if_pos c4] at H
    have c4b0 : decide (x9_1 < (l0_2.length : Int)) = true := decide_eq_true c4
    clear c4
    by_cases c5 : 0 ≤ x9_1
    ·rw [if_pos c5] at H
     have c5b0 : decide (0 ≤ x9_1) = true := decide_eq_true c5
     clear c5
     by_cases c6 : x9_1 < (l0_2.length : Int)
     ·rw [if_pos c6] at H
      have c6b0 : decide (x9_1 < (l0_2.length : Int)) = true := decide_eq_true c6
      clear c6
      replace H := Option.bind_eq_some_iff.mp H
      obtain ⟨t386, A70, H⟩ := H
      replace H : (expr_height.l0 k1 (mx x3_1 t386) l0_2 (l0_2.length : Int) (wrap64 (x9_1 + 1)) a0_0 a0_1 l0_2) = some r := H
      have A7 := Aside0.mk A70
      clear A70
      obtain ⟨ji8, hji8⟩ : ∃ j_ : Int, (mx x3_1 t386) = j_ := ⟨_, rfl⟩
      replace H : (expr_height.l0 k1 ji8 l0_2 (l0_2.length : Int) (wrap64 (x9_1 + 1)) a0_0 a0_1 l0_2) = some r := by first | (rw [hji8] at H; exact H) | (simp only [hji8] at H ⊢; exact H)
      (try rw [hji8] at A7)
      have hji8_ : (if x3_1 < t386 then t386 else x3_1) = ji8 := hji8
      have H' := Aside0.mk H
      clear H
      have p384 : 0 ≤ (x9_1 : Int) := of_decide_eq_true (by first | (with_reducible assumption) | assumption)
      have q384 : x9_1 < (l0_2.length : Int) := of_decide_eq_true (by first | (with_reducible assumption) | assumption)
      obtain ⟨ad384, A384_2, c384_2, e384, hx384_0, hx384_1, hx384_2, hl384_2, hi384_2⟩ := at_T24 HR0_2.out x9_1 p384 q384
      cases e384
      replace hx384_0 := (HB.out.cell (World.block_lt_of_cell? w _ hx384_0)).trans hx384_0
      replace hx384_1 := (HB.out.cell (World.block_lt_of_cell? w _ hx384_1)).trans hx384_1
      replace hx384_2 := (HB.out.cell (World.block_lt_of_cell? w _ hx384_2)).trans hx384_2
      have HR384_2 := Aside0.mk hi384_2
      have HC384_2 := Aside0.mk hl384_2
      clear hi384_2 hl384_2
      replace p384 := eq_true p384
      replace q384 := eq_true q384
      go_wp2_with (first | ((with_reducible refine gate_dst (N := 5) rfl ?_); refine box_event ?hg (N := 5) ?hd (cs := #[.int .i64 0, .int .i64 0, .slice none 0 0]) (t := 24) ?hr ?_; (case hd => rfl); (case hg => rfl); (case hr => first | (go_simp; done) | (go_simp; rfl)); intro gb385 hg w9 hbox hb; have n0_ := Aside0.mk (blk_below (g := gb383) (o := .cells #[.int .i64 a0_0, .int .i64 a0_1, .slice (some ad384) l0_2.length c0_2] 24 (0, 0)) (bK) hb); have n1_ := Aside0.mk (below_step (bB) hb); have n2_ := Aside0.mk (hbox); have n3_ := Aside0.mk ((by rw [hg]; exact (below_size (bB)) : w.heap.size ≤ gb385)); have n4_ := Aside0.mk ((by rw [hg]; exact (below_size (bB)) : w.heap.size ≤ gb385)); have n5_ := Aside0.mk ((by rw [hg]; exact Nat.ne_of_lt (blk_lt (g := gb383) (o := .cells #[.int .i64 a0_0, .int .i64 a0_1, .slice (some ad384) l0_2.length c0_2] 24 (0, 0)) (bK)) : gb383 ≠ gb385)); have n6_ := Aside0.mk ((by rw [hg]; exact Nat.ne_of_gt (blk_lt (g := gb383) (o := .cells #[.int .i64 a0_0, .int .i64 a0_1, .slice (some ad384) l0_2.length c0_2] 24 (0, 0)) (bK)) : gb385 ≠ gb383)); clear BK383; clear HB; have BK383 := n0_; have HB := n1_; have BK385 := n2_; have GW385 := n3_; have GE385 := n4_; have NB383_385 := n5_; have NB385_383 := n6_; clear n0_ n1_ n2_ n3_ n4_ n5_ n6_; clear hb hbox hg; have hnb10 := NB385_383.out; have hnc10 := NB383_385.out; have hcz11_0 : w9.cell? ⟨gb385, 0, none⟩ = some (.int .i64 0) := (blk_cell BK385.out 0).trans rfl; have hcz11_1 : w9.cell? ⟨gb385, 1, none⟩ = some (.int .i64 0) := (blk_cell BK385.out 1).trans rfl; have hcz11_2 : w9.cell? ⟨gb385, 2, none⟩ = some (.slice none 0 0) := (blk_cell BK385.out 2).trans rfl; have hfz11_0 := blk_frozen BK385.out 0; have hfz11_1 := blk_frozen BK385.out 1; have hfz11_2 := blk_frozen BK385.out 2) | ((with_reducible refine gate_callee (f := 56) rfl ?_); refine goesL_ (some 15) rfl rfl Try.func56 (by kernel_rfl) rfl #[.agg #[.int .i64 ((rd_T24 l0_2 x9_1).f0), .int .i64 ((rd_T24 l0_2 x9_1).f1), .slice A384_2 ((rd_T24 l0_2 x9_1).f2).length c384_2]] rfl (by (try simp only [List.map_toArray, List.map_cons, List.map_nil]); first | done | rfl | (simp only [List.length_drop, List.length_take]; rfl) | (simp only [Int.ofNat_lt, Int.ofNat_le]; rfl)) ?_; (with_reducible refine (ih k1 (by have := HK1.out; omega) ((rd_T24 l0_2 x9_1).f0) ((rd_T24 l0_2 x9_1).f1) _ _ ((rd_T24 l0_2 x9_1).f2) t386 _ ?side1 ?side2 A7.out).mono ?_); (case side1 => exact Kd.C_below HR384_2.out (bB)); (case side2 => exact HC384_2.out); rintro e w12 ⟨rfl, hb⟩; refine ⟨_, rfl, ?_⟩; have n0_ := Aside0.mk (blk_below (g := gb383) (o := .cells #[.int .i64 a0_0, .int .i64 a0_1, .slice (some ad384) l0_2.length c0_2] 24 (0, 0)) (by (with_reducible repeat (first | refine blk_drewN ?_ _ | refine blk_drew ?_ | refine blk_alloc ?_ _)); refine blk_far ?_ NB383_385.out _; (with_reducible repeat (first | refine blk_drewN ?_ _ | refine blk_drew ?_ | refine blk_alloc ?_ _)); refine blk_far ?_ NB383_385.out _; (with_reducible repeat (first | refine blk_drewN ?_ _ | refine blk_drew ?_ | refine blk_alloc ?_ _)); refine blk_far ?_ NB383_385.out _; (with_reducible repeat (first | refine blk_drewN ?_ _ | refine blk_drew ?_ | refine blk_alloc ?_ _)); exact BK383.out) hb); have n1_ := Aside0.mk (blk_below (g := gb385) (o := .cells #[.int .i64 ((rd_T24 l0_2 x9_1).f0), .int .i64 ((rd_T24 l0_2 x9_1).f1), .slice A384_2 ((rd_T24 l0_2 x9_1).f2).length c384_2] 24 (0, 0)) (by (with_reducible repeat (first | refine blk_drewN ?_ _ | refine blk_drew ?_ | refine blk_alloc ?_ _)); refine blk_put (cs := #[.int .i64 ((rd_T24 l0_2 x9_1).f0), .int .i64 ((rd_T24 l0_2 x9_1).f1), .slice none 0 0]) ?_ 2 _ rfl; (with_reducible repeat (first | refine blk_drewN ?_ _ | refine blk_drew ?_ | refine blk_alloc ?_ _)); refine blk_put (cs := #[.int .i64 ((rd_T24 l0_2 x9_1).f0), .int .i64 0, .slice none 0 0]) ?_ 1 _ rfl; (with_reducible repeat (first | refine blk_drewN ?_ _ | refine blk_drew ?_ | refine blk_alloc ?_ _)); refine blk_put (cs := #[.int .i64 0, .int .i64 0, .slice none 0 0]) ?_ 0 _ rfl; (with_reducible repeat (first | refine blk_drewN ?_ _ | refine blk_drew ?_ | refine blk_alloc ?_ _)); exact BK385.out) hb); have n2_ := Aside0.mk (below_step (bB) hb); clear BK383; clear BK385; clear HB; have BK383 := n0_; have BK385 := n1_; have HB := n2_; clear n0_ n1_ n2_; (try clear hb); (try clear hb2); (try clear hk); (try clear hi)))
      (first | go_roundg k1 | ((simp only [add_plain] at *); go_roundg k1))
      case measure => have := HK1.out; omega
      case rel => exact ⟨(ji8), (wrap64 (x9_1 + 1)), (by first | rfl | (simp; done) | (simp only [← hji8] <;> (first | rfl | simp)) | (simp [*]; done)), (by first | rfl | (simp; done) | (simp [*]; done)), H', ⟨by have := HK1.out; omega⟩, ⟨bK⟩, ⟨bB⟩⟩
     ·rw [if_neg c6] at H
      exact absurd H (by simp)
    ·rw [if_neg c5] at H
     exact absurd H (by simp)
   ·rw [if_neg c4] at H
    have c4b0 : decide (x9_1 < (l0_2.length : Int)) = false := decide_eq_false c4
    clear c4
    by_cases c13 : a0_0 = 7
    ·rw [if_pos c13] at H
     have c13b0 : (a0_0 == 7) = true := beq_iff_eq.mpr c13
     have c13b1 : (a0_0 != 7) = false := bne_eq_false_iff_eq.mpr c13
     clear c13
     obtain rfl := Option.some.inj H
     have hcz14_0 : wr.cell? ⟨gb383, 0, none⟩ = some (.int .i64 a0_0) := (blk_cell BK383.out 0).trans rfl
     have hcz14_1 : wr.cell? ⟨gb383, 1, none⟩ = some (.int .i64 a0_1) := (blk_cell BK383.out 1).trans rfl
     have hcz14_2 : wr.cell? ⟨gb383, 2, none⟩ = some (.slice A0_2 l0_2.length c0_2) := (blk_cell BK383.out 2).trans rfl
     have hfz14_0 := blk_frozen BK383.out 0
     have hfz14_1 := blk_frozen BK383.out 1
     have hfz14_2 := blk_frozen BK383.out 2
     go_wp2
     go_ret
     exact ⟨by first | rfl | (simp [errW_none, errW_some] <;> rfl) | (simp [*, errW_none, errW_some] <;> rfl), bB⟩
    ·rw [if_neg c13] at H
     have c13b0 : (a0_0 == 7) = false := beq_eq_false_iff_ne.mpr c13
     have c13b1 : (a0_0 != 7) = true := bne_iff_ne.mpr c13
     obtain rfl := Option.some.inj H
     have hcz15_0 : wr.cell? ⟨gb383, 0, none⟩ = some (.int .i64 a0_0) := (blk_cell BK383.out 0).trans rfl
     have hcz15_1 : wr.cell? ⟨gb383, 1, none⟩ = some (.int .i64 a0_1) := (blk_cell BK383.out 1).trans rfl
     have hcz15_2 : wr.cell? ⟨gb383, 2, none⟩ = some (.slice A0_2 l0_2.length c0_2) := (blk_cell BK383.out 2).trans rfl
     have hfz15_0 := blk_frozen BK383.out 0
     have hfz15_1 := blk_frozen BK383.out 1
     have hfz15_2 := blk_frozen BK383.out 2
     go_wp2
     go_ret
     exact ⟨by first | rfl | (simp [errW_none, errW_some] <;> rfl) | (simp [*, errW_none, errW_some] <;> rfl), bB⟩
end Go.Proofs.Ytjofkebiacaciaa.PAll
end
section
namespace Go.Proofs.Ytjofkebiacaciaa.PAll
open Go.RowKit Go.Proofs.YtjofkebiacaciaaW.PrintWords Go.Proofs.YtjofkebiacaciaaW.PrintLast Go.Proofs.YtjofkebiacaciaaW.PrintMore
attribute [local go_sem] max2_int min2_int max_two min_two max_three min_three max_four min_four
set_option linter.unusedVariables false
set_option linter.unusedSimpArgs false
def expr_StarHeight.f (k : Nat) (a0_0 : Int) (a0_1 : Int) (l0_2 : List (S24)) : Option (Int) := (expr_valid.f k a0_0 a0_1 l0_2).bind fun t388 => (if t388 = true then ((expr_height.f k a0_0 a0_1 l0_2).bind fun t389 => (some t389)) else (some 0))
theorem expr_StarHeight.mono : ∀ a0 a1 a2 k, LeO (expr_StarHeight.f k a0 a1 a2) (expr_StarHeight.f (k + 1) a0 a1 a2) := by
 intro a0 a1 a2 k
 unfold expr_StarHeight.f
 repeat' first
   | (with_reducible exact expr_height.mono _ _ _ _)
   | (with_reducible exact expr_valid.mono _ _ _ _)
   | (with_reducible exact LeO.refl _)
   | (with_reducible exact LeO.none _)
   | (with_reducible refine LeO.ite ?_ ?_)
   | (with_reducible refine LeO.bind ?_ (fun _ => ?_))
   | exact expr_height.mono _ _ _ _
   | exact expr_valid.mono _ _ _ _
   | exact LeO.none _
   | refine LeO.ite ?_ ?_
   | refine LeO.bind ?_ (fun _ => ?_)
set_option maxHeartbeats 8000000 in
set_option maxRecDepth 100000 in
theorem expr_StarHeight.calls (k : Nat) (a0_0 : Int) (a0_1 : Int) (A0_2 : Option Addr) (c0_2 : Nat) (l0_2 : List (S24)) (r : Int) (w : World) (hr0_2 : Kd.C k24 w A0_2 l0_2.length l0_2) (hc0_2 : l0_2.length ≤ c0_2) (h : expr_StarHeight.f k a0_0 a0_1 l0_2 = some r) :
  Calls Try.prog 27 #[.agg #[.int .i64 a0_0, .int .i64 a0_1, .slice A0_2 l0_2.length c0_2]] w fun e w' => e = .returned (.int .i64 r) ∧ Below w.heap.size w w' := by
 have hu24 := Try.underlying24
 have HR0_2 := Aside0.mk hr0_2
 have HC0_2 := Aside0.mk hc0_2
 clear hr0_2 hc0_2
 have HB := Aside0.mk (Below.refl w.heap.size w)
 have H : ((expr_valid.f k a0_0 a0_1 l0_2).bind fun t388 => (if t388 = true then ((expr_height.f k a0_0 a0_1 l0_2).bind fun t389 => (some t389)) else (some 0))) = some r := h
 clear h
 replace H := Option.bind_eq_some_iff.mp H
 obtain ⟨t388, A20, H⟩ := H
 replace H : (if t388 = true then ((expr_height.f k a0_0 a0_1 l0_2).bind fun t389 => (some t389)) else (some 0)) = some r := H
 have A2 := Aside0.mk A20
 clear A20
 by_cases c3 : t388 = true
 ·subst c3
  have H1 : ((expr_height.f k a0_0 a0_1 l0_2).bind fun t389 => (some t389)) = some r := by rw [if_pos rfl] at H; exact H
  clear H
  have H := H1
  clear H1
  replace H := Option.bind_eq_some_iff.mp H
  obtain ⟨t389, A40, H⟩ := H
  replace H : (some t389) = some r := H
  have A4 := Aside0.mk A40
  clear A40
  obtain rfl := Option.some.inj H
  go_enter Try.func27, Try.ntmps27
  go_wp2_with (first | ((with_reducible refine gate_dst (N := 1) rfl ?_); refine box_event ?hg (N := 1) ?hd (cs := #[.int .i64 a0_0, .int .i64 a0_1, .slice A0_2 l0_2.length c0_2]) (t := 24) ?hr ?_; (case hd => rfl); (case hg => rfl); (case hr => first | (go_simp; done) | (go_simp; rfl)); intro gb387 hg w5 hbox hb; have n0_ := Aside0.mk (below_step (bB) hb); have n1_ := Aside0.mk (hbox); have n2_ := Aside0.mk ((by rw [hg]; exact (below_size (bB)) : w.heap.size ≤ gb387)); have n3_ := Aside0.mk ((by rw [hg]; exact (below_size (bB)) : w.heap.size ≤ gb387)); clear HB; have HB := n0_; have BK387 := n1_; have GW387 := n2_; have GE387 := n3_; clear n0_ n1_ n2_ n3_; clear hb hbox hg; have hcz6_0 : w5.cell? ⟨gb387, 0, none⟩ = some (.int .i64 a0_0) := (blk_cell BK387.out 0).trans rfl; have hcz6_1 : w5.cell? ⟨gb387, 1, none⟩ = some (.int .i64 a0_1) := (blk_cell BK387.out 1).trans rfl; have hcz6_2 : w5.cell? ⟨gb387, 2, none⟩ = some (.slice A0_2 l0_2.length c0_2) := (blk_cell BK387.out 2).trans rfl; have hfz6_0 := blk_frozen BK387.out 0; have hfz6_1 := blk_frozen BK387.out 1; have hfz6_2 := blk_frozen BK387.out 2) | ((with_reducible refine gate_callee (f := 46) rfl ?_); refine goesL_ (some 4) rfl rfl Try.func46 (by kernel_rfl) rfl #[.agg #[.int .i64 a0_0, .int .i64 a0_1, .slice A0_2 l0_2.length c0_2]] rfl (by (try simp only [List.map_toArray, List.map_cons, List.map_nil]); first | done | rfl | (simp only [List.length_drop, List.length_take]; rfl) | (simp only [Int.ofNat_lt, Int.ofNat_le]; rfl)) ?_; (with_reducible refine (expr_valid.calls k a0_0 a0_1 _ _ l0_2 true _ ?side1 ?side2 A2.out).mono ?_); (case side1 => repeat (first | exact (Kd.C_below HR0_2.out HB.out) | (with_reducible refine Kd.C_alloc ?_ _) | (with_reducible refine Kd.C_drewN ?_ _) | (with_reducible refine Kd.C_drew ?_))); (case side2 => exact HC0_2.out); rintro e w7 ⟨rfl, hb⟩; refine ⟨_, rfl, ?_⟩; have n0_ := Aside0.mk (blk_below (g := gb387) (o := .cells #[.int .i64 a0_0, .int .i64 a0_1, .slice A0_2 l0_2.length c0_2] 24 (0, 0)) (bK) hb); have n1_ := Aside0.mk (below_step (bB) hb); clear BK387; clear HB; have BK387 := n0_; have HB := n1_; clear n0_ n1_; (try clear hb); (try clear hb2); (try clear hk); (try clear hi); have hcz8_0 : w7.cell? ⟨gb387, 0, none⟩ = some (.int .i64 a0_0) := (blk_cell BK387.out 0).trans rfl; have hcz8_1 : w7.cell? ⟨gb387, 1, none⟩ = some (.int .i64 a0_1) := (blk_cell BK387.out 1).trans rfl; have hcz8_2 : w7.cell? ⟨gb387, 2, none⟩ = some (.slice A0_2 l0_2.length c0_2) := (blk_cell BK387.out 2).trans rfl; have hfz8_0 := blk_frozen BK387.out 0; have hfz8_1 := blk_frozen BK387.out 1; have hfz8_2 := blk_frozen BK387.out 2) | ((with_reducible refine gate_callee (f := 56) rfl ?_); refine goesL_ (some 7) rfl rfl Try.func56 (by kernel_rfl) rfl #[.agg #[.int .i64 a0_0, .int .i64 a0_1, .slice A0_2 l0_2.length c0_2]] rfl (by (try simp only [List.map_toArray, List.map_cons, List.map_nil]); first | done | rfl | (simp only [List.length_drop, List.length_take]; rfl) | (simp only [Int.ofNat_lt, Int.ofNat_le]; rfl)) ?_; (with_reducible refine (expr_height.calls k a0_0 a0_1 _ _ l0_2 t389 _ ?side1 ?side2 A4.out).mono ?_); (case side1 => repeat (first | exact (Kd.C_below HR0_2.out HB.out) | (with_reducible refine Kd.C_alloc ?_ _) | (with_reducible refine Kd.C_drewN ?_ _) | (with_reducible refine Kd.C_drew ?_))); (case side2 => exact HC0_2.out); rintro e w9 ⟨rfl, hb⟩; refine ⟨_, rfl, ?_⟩; have n0_ := Aside0.mk (blk_below (g := gb387) (o := .cells #[.int .i64 a0_0, .int .i64 a0_1, .slice A0_2 l0_2.length c0_2] 24 (0, 0)) (bK) hb); have n1_ := Aside0.mk (below_step (bB) hb); clear BK387; clear HB; have BK387 := n0_; have HB := n1_; clear n0_ n1_; (try clear hb); (try clear hb2); (try clear hk); (try clear hi)))
  go_ret
  exact ⟨by first | rfl | (simp [errW_none, errW_some] <;> rfl) | (simp [*, errW_none, errW_some] <;> rfl), bB⟩
 ·replace c3 := Bool.eq_false_iff.mpr c3
  subst c3
  have H1 : (some 0) = some r := by rw [if_neg (show ¬ (false = true) by decide)] at H; exact H
  clear H
  have H := H1
  clear H1
  obtain rfl := Option.some.inj H
  go_enter Try.func27, Try.ntmps27
  go_wp2_with (first | ((with_reducible refine gate_dst (N := 1) rfl ?_); refine box_event ?hg (N := 1) ?hd (cs := #[.int .i64 a0_0, .int .i64 a0_1, .slice A0_2 l0_2.length c0_2]) (t := 24) ?hr ?_; (case hd => rfl); (case hg => rfl); (case hr => first | (go_simp; done) | (go_simp; rfl)); intro gb387 hg w10 hbox hb; have n0_ := Aside0.mk (below_step (bB) hb); have n1_ := Aside0.mk (hbox); have n2_ := Aside0.mk ((by rw [hg]; exact (below_size (bB)) : w.heap.size ≤ gb387)); have n3_ := Aside0.mk ((by rw [hg]; exact (below_size (bB)) : w.heap.size ≤ gb387)); clear HB; have HB := n0_; have BK387 := n1_; have GW387 := n2_; have GE387 := n3_; clear n0_ n1_ n2_ n3_; clear hb hbox hg; have hcz11_0 : w10.cell? ⟨gb387, 0, none⟩ = some (.int .i64 a0_0) := (blk_cell BK387.out 0).trans rfl; have hcz11_1 : w10.cell? ⟨gb387, 1, none⟩ = some (.int .i64 a0_1) := (blk_cell BK387.out 1).trans rfl; have hcz11_2 : w10.cell? ⟨gb387, 2, none⟩ = some (.slice A0_2 l0_2.length c0_2) := (blk_cell BK387.out 2).trans rfl; have hfz11_0 := blk_frozen BK387.out 0; have hfz11_1 := blk_frozen BK387.out 1; have hfz11_2 := blk_frozen BK387.out 2) | ((with_reducible refine gate_callee (f := 46) rfl ?_); refine goesL_ (some 4) rfl rfl Try.func46 (by kernel_rfl) rfl #[.agg #[.int .i64 a0_0, .int .i64 a0_1, .slice A0_2 l0_2.length c0_2]] rfl (by (try simp only [List.map_toArray, List.map_cons, List.map_nil]); first | done | rfl | (simp only [List.length_drop, List.length_take]; rfl) | (simp only [Int.ofNat_lt, Int.ofNat_le]; rfl)) ?_; (with_reducible refine (expr_valid.calls k a0_0 a0_1 _ _ l0_2 false _ ?side1 ?side2 A2.out).mono ?_); (case side1 => repeat (first | exact (Kd.C_below HR0_2.out HB.out) | (with_reducible refine Kd.C_alloc ?_ _) | (with_reducible refine Kd.C_drewN ?_ _) | (with_reducible refine Kd.C_drew ?_))); (case side2 => exact HC0_2.out); rintro e w12 ⟨rfl, hb⟩; refine ⟨_, rfl, ?_⟩; have n0_ := Aside0.mk (blk_below (g := gb387) (o := .cells #[.int .i64 a0_0, .int .i64 a0_1, .slice A0_2 l0_2.length c0_2] 24 (0, 0)) (bK) hb); have n1_ := Aside0.mk (below_step (bB) hb); clear BK387; clear HB; have BK387 := n0_; have HB := n1_; clear n0_ n1_; (try clear hb); (try clear hb2); (try clear hk); (try clear hi)))
  go_ret
  exact ⟨by first | rfl | (simp [errW_none, errW_some] <;> rfl) | (simp [*, errW_none, errW_some] <;> rfl), bB⟩
end Go.Proofs.Ytjofkebiacaciaa.PAll
end
section
namespace Go.Proofs.Ytjofkebiacaciaa.PAll
open Go.RowKit Go.Proofs.YtjofkebiacaciaaW.PrintWords Go.Proofs.YtjofkebiacaciaaW.PrintLast Go.Proofs.YtjofkebiacaciaaW.PrintMore
attribute [local go_sem] max2_int min2_int max_two min_two max_three min_three max_four min_four
set_option linter.unusedVariables false
set_option linter.unusedSimpArgs false
def expr_StarFree.f (k : Nat) (a0_0 : Int) (a0_1 : Int) (l0_2 : List (S24)) : Option (Bool) := (expr_valid.f k a0_0 a0_1 l0_2).bind fun t391 => (if t391 = true then ((expr_height.f k a0_0 a0_1 l0_2).bind fun t392 => (some (t392 == 0))) else (some false))
theorem expr_StarFree.mono : ∀ a0 a1 a2 k, LeO (expr_StarFree.f k a0 a1 a2) (expr_StarFree.f (k + 1) a0 a1 a2) := by
 intro a0 a1 a2 k
 unfold expr_StarFree.f
 repeat' first
   | (with_reducible exact expr_height.mono _ _ _ _)
   | (with_reducible exact expr_valid.mono _ _ _ _)
   | (with_reducible exact LeO.refl _)
   | (with_reducible exact LeO.none _)
   | (with_reducible refine LeO.ite ?_ ?_)
   | (with_reducible refine LeO.bind ?_ (fun _ => ?_))
   | exact expr_height.mono _ _ _ _
   | exact expr_valid.mono _ _ _ _
   | exact LeO.none _
   | refine LeO.ite ?_ ?_
   | refine LeO.bind ?_ (fun _ => ?_)
set_option maxHeartbeats 8000000 in
set_option maxRecDepth 100000 in
theorem expr_StarFree.calls (k : Nat) (a0_0 : Int) (a0_1 : Int) (A0_2 : Option Addr) (c0_2 : Nat) (l0_2 : List (S24)) (r : Bool) (w : World) (hr0_2 : Kd.C k24 w A0_2 l0_2.length l0_2) (hc0_2 : l0_2.length ≤ c0_2) (h : expr_StarFree.f k a0_0 a0_1 l0_2 = some r) :
  Calls Try.prog 28 #[.agg #[.int .i64 a0_0, .int .i64 a0_1, .slice A0_2 l0_2.length c0_2]] w fun e w' => e = .returned (.bool r) ∧ Below w.heap.size w w' := by
 have hu24 := Try.underlying24
 have HR0_2 := Aside0.mk hr0_2
 have HC0_2 := Aside0.mk hc0_2
 clear hr0_2 hc0_2
 have HB := Aside0.mk (Below.refl w.heap.size w)
 have H : ((expr_valid.f k a0_0 a0_1 l0_2).bind fun t391 => (if t391 = true then ((expr_height.f k a0_0 a0_1 l0_2).bind fun t392 => (some (t392 == 0))) else (some false))) = some r := h
 clear h
 replace H := Option.bind_eq_some_iff.mp H
 obtain ⟨t391, A20, H⟩ := H
 replace H : (if t391 = true then ((expr_height.f k a0_0 a0_1 l0_2).bind fun t392 => (some (t392 == 0))) else (some false)) = some r := H
 have A2 := Aside0.mk A20
 clear A20
 by_cases c3 : t391 = true
 ·subst c3
  have H1 : ((expr_height.f k a0_0 a0_1 l0_2).bind fun t392 => (some (t392 == 0))) = some r := by rw [if_pos rfl] at H; exact H
  clear H
  have H := H1
  clear H1
  replace H := Option.bind_eq_some_iff.mp H
  obtain ⟨t392, A40, H⟩ := H
  replace H : (some (t392 == 0)) = some r := H
  have A4 := Aside0.mk A40
  clear A40
  obtain rfl := Option.some.inj H
  go_enter Try.func28, Try.ntmps28
  go_wp2_with (first | ((with_reducible refine gate_dst (N := 1) rfl ?_); refine box_event ?hg (N := 1) ?hd (cs := #[.int .i64 a0_0, .int .i64 a0_1, .slice A0_2 l0_2.length c0_2]) (t := 24) ?hr ?_; (case hd => rfl); (case hg => rfl); (case hr => first | (go_simp; done) | (go_simp; rfl)); intro gb390 hg w5 hbox hb; have n0_ := Aside0.mk (below_step (bB) hb); have n1_ := Aside0.mk (hbox); have n2_ := Aside0.mk ((by rw [hg]; exact (below_size (bB)) : w.heap.size ≤ gb390)); have n3_ := Aside0.mk ((by rw [hg]; exact (below_size (bB)) : w.heap.size ≤ gb390)); clear HB; have HB := n0_; have BK390 := n1_; have GW390 := n2_; have GE390 := n3_; clear n0_ n1_ n2_ n3_; clear hb hbox hg; have hcz6_0 : w5.cell? ⟨gb390, 0, none⟩ = some (.int .i64 a0_0) := (blk_cell BK390.out 0).trans rfl; have hcz6_1 : w5.cell? ⟨gb390, 1, none⟩ = some (.int .i64 a0_1) := (blk_cell BK390.out 1).trans rfl; have hcz6_2 : w5.cell? ⟨gb390, 2, none⟩ = some (.slice A0_2 l0_2.length c0_2) := (blk_cell BK390.out 2).trans rfl; have hfz6_0 := blk_frozen BK390.out 0; have hfz6_1 := blk_frozen BK390.out 1; have hfz6_2 := blk_frozen BK390.out 2) | ((with_reducible refine gate_callee (f := 46) rfl ?_); refine goesL_ (some 4) rfl rfl Try.func46 (by kernel_rfl) rfl #[.agg #[.int .i64 a0_0, .int .i64 a0_1, .slice A0_2 l0_2.length c0_2]] rfl (by (try simp only [List.map_toArray, List.map_cons, List.map_nil]); first | done | rfl | (simp only [List.length_drop, List.length_take]; rfl) | (simp only [Int.ofNat_lt, Int.ofNat_le]; rfl)) ?_; (with_reducible refine (expr_valid.calls k a0_0 a0_1 _ _ l0_2 true _ ?side1 ?side2 A2.out).mono ?_); (case side1 => repeat (first | exact (Kd.C_below HR0_2.out HB.out) | (with_reducible refine Kd.C_alloc ?_ _) | (with_reducible refine Kd.C_drewN ?_ _) | (with_reducible refine Kd.C_drew ?_))); (case side2 => exact HC0_2.out); rintro e w7 ⟨rfl, hb⟩; refine ⟨_, rfl, ?_⟩; have n0_ := Aside0.mk (blk_below (g := gb390) (o := .cells #[.int .i64 a0_0, .int .i64 a0_1, .slice A0_2 l0_2.length c0_2] 24 (0, 0)) (bK) hb); have n1_ := Aside0.mk (below_step (bB) hb); clear BK390; clear HB; have BK390 := n0_; have HB := n1_; clear n0_ n1_; (try clear hb); (try clear hb2); (try clear hk); (try clear hi); have hcz8_0 : w7.cell? ⟨gb390, 0, none⟩ = some (.int .i64 a0_0) := (blk_cell BK390.out 0).trans rfl; have hcz8_1 : w7.cell? ⟨gb390, 1, none⟩ = some (.int .i64 a0_1) := (blk_cell BK390.out 1).trans rfl; have hcz8_2 : w7.cell? ⟨gb390, 2, none⟩ = some (.slice A0_2 l0_2.length c0_2) := (blk_cell BK390.out 2).trans rfl; have hfz8_0 := blk_frozen BK390.out 0; have hfz8_1 := blk_frozen BK390.out 1; have hfz8_2 := blk_frozen BK390.out 2) | (go_at_call 56; (with_reducible refine (expr_height.calls k a0_0 a0_1 _ _ l0_2 t392 _ ?side1 ?side2 A4.out).mono ?_); (case side1 => repeat (first | exact (Kd.C_below HR0_2.out HB.out) | (with_reducible refine Kd.C_alloc ?_ _) | (with_reducible refine Kd.C_drewN ?_ _) | (with_reducible refine Kd.C_drew ?_))); (case side2 => exact HC0_2.out); rintro e w9 ⟨rfl, hb⟩; have n0_ := Aside0.mk (blk_below (g := gb390) (o := .cells #[.int .i64 a0_0, .int .i64 a0_1, .slice A0_2 l0_2.length c0_2] 24 (0, 0)) (bK) hb); have n1_ := Aside0.mk (below_step (bB) hb); clear BK390; clear HB; have BK390 := n0_; have HB := n1_; clear n0_ n1_; (try clear hb); (try clear hb2); (try clear hk); (try clear hi)))
  go_ret
  exact ⟨by first | rfl | (simp [errW_none, errW_some] <;> rfl) | (simp [*, errW_none, errW_some] <;> rfl), bB⟩
 ·replace c3 := Bool.eq_false_iff.mpr c3
  subst c3
  have H1 : (some false) = some r := by rw [if_neg (show ¬ (false = true) by decide)] at H; exact H
  clear H
  have H := H1
  clear H1
  obtain rfl := Option.some.inj H
  go_enter Try.func28, Try.ntmps28
  go_wp2_with (first | ((with_reducible refine gate_dst (N := 1) rfl ?_); refine box_event ?hg (N := 1) ?hd (cs := #[.int .i64 a0_0, .int .i64 a0_1, .slice A0_2 l0_2.length c0_2]) (t := 24) ?hr ?_; (case hd => rfl); (case hg => rfl); (case hr => first | (go_simp; done) | (go_simp; rfl)); intro gb390 hg w10 hbox hb; have n0_ := Aside0.mk (below_step (bB) hb); have n1_ := Aside0.mk (hbox); have n2_ := Aside0.mk ((by rw [hg]; exact (below_size (bB)) : w.heap.size ≤ gb390)); have n3_ := Aside0.mk ((by rw [hg]; exact (below_size (bB)) : w.heap.size ≤ gb390)); clear HB; have HB := n0_; have BK390 := n1_; have GW390 := n2_; have GE390 := n3_; clear n0_ n1_ n2_ n3_; clear hb hbox hg; have hcz11_0 : w10.cell? ⟨gb390, 0, none⟩ = some (.int .i64 a0_0) := (blk_cell BK390.out 0).trans rfl; have hcz11_1 : w10.cell? ⟨gb390, 1, none⟩ = some (.int .i64 a0_1) := (blk_cell BK390.out 1).trans rfl; have hcz11_2 : w10.cell? ⟨gb390, 2, none⟩ = some (.slice A0_2 l0_2.length c0_2) := (blk_cell BK390.out 2).trans rfl; have hfz11_0 := blk_frozen BK390.out 0; have hfz11_1 := blk_frozen BK390.out 1; have hfz11_2 := blk_frozen BK390.out 2) | ((with_reducible refine gate_callee (f := 46) rfl ?_); refine goesL_ (some 4) rfl rfl Try.func46 (by kernel_rfl) rfl #[.agg #[.int .i64 a0_0, .int .i64 a0_1, .slice A0_2 l0_2.length c0_2]] rfl (by (try simp only [List.map_toArray, List.map_cons, List.map_nil]); first | done | rfl | (simp only [List.length_drop, List.length_take]; rfl) | (simp only [Int.ofNat_lt, Int.ofNat_le]; rfl)) ?_; (with_reducible refine (expr_valid.calls k a0_0 a0_1 _ _ l0_2 false _ ?side1 ?side2 A2.out).mono ?_); (case side1 => repeat (first | exact (Kd.C_below HR0_2.out HB.out) | (with_reducible refine Kd.C_alloc ?_ _) | (with_reducible refine Kd.C_drewN ?_ _) | (with_reducible refine Kd.C_drew ?_))); (case side2 => exact HC0_2.out); rintro e w12 ⟨rfl, hb⟩; refine ⟨_, rfl, ?_⟩; have n0_ := Aside0.mk (blk_below (g := gb390) (o := .cells #[.int .i64 a0_0, .int .i64 a0_1, .slice A0_2 l0_2.length c0_2] 24 (0, 0)) (bK) hb); have n1_ := Aside0.mk (below_step (bB) hb); clear BK390; clear HB; have BK390 := n0_; have HB := n1_; clear n0_ n1_; (try clear hb); (try clear hb2); (try clear hk); (try clear hi)))
  go_ret
  exact ⟨by first | rfl | (simp [errW_none, errW_some] <;> rfl) | (simp [*, errW_none, errW_some] <;> rfl), bB⟩
end Go.Proofs.Ytjofkebiacaciaa.PAll
end
section
namespace Go.Proofs.Ytjofkebiacaciaa.PAll
open Go.RowKit Go.Proofs.YtjofkebiacaciaaW.PrintWords Go.Proofs.YtjofkebiacaciaaW.PrintLast Go.Proofs.YtjofkebiacaciaaW.PrintMore
attribute [local go_sem] max2_int min2_int max_two min_two max_three min_three max_four min_four
set_option linter.unusedVariables false
set_option linter.unusedSimpArgs false
mutual
def simplify_Nullable.j0 : Nat → Int → Bool → Int → Int → List (S24) → Option (Bool)
 | 0, _, _, _, _, _ => none
 | k + 1, x8, x9, x394000, x394001, x394002 => if x9 = true then (some true) else (if x8 = 4 then (simplify_Nullable.l0 k x394002 (x394002.length : Int) 0) else (if x8 = 5 then (simplify_Nullable.j2 k x8 (x8 == 5) x394000 x394001 x394002) else (simplify_Nullable.j2 k x8 (x8 == 6) x394000 x394001 x394002)))
def simplify_Nullable.l0 : Nat → List (S24) → Int → Int → Option (Bool)
 | 0, _, _, _ => none
 | k + 1, x15, x16, x17 => if x17 < x16 then (if 0 ≤ x17 then (if x17 < (x15.length : Int) then ((simplify_Nullable.f k ((rd_T24 x15 x17).f0) ((rd_T24 x15 x17).f1) ((rd_T24 x15 x17).f2)).bind fun t396 => (if t396 = true then (some true) else (simplify_Nullable.l0 k x15 x16 (wrap64 (x17 + 1))))) else (none)) else (none)) else (some false)
def simplify_Nullable.j2 : Nat → Int → Bool → Int → Int → List (S24) → Option (Bool)
 | 0, _, _, _, _, _ => none
 | k + 1, x8, x24, x394000, x394001, x394002 => if x24 = true then (simplify_Nullable.l1 k x394002 (x394002.length : Int) 0) else (if x8 = 8 then (if 0 < (x394002.length : Int) then ((simplify_Nullable.f k ((rd_T24 x394002 0).f0) ((rd_T24 x394002 0).f1) ((rd_T24 x394002 0).f2)).bind fun t401 => (some (!t401))) else (none)) else (some false))
def simplify_Nullable.l1 : Nat → List (S24) → Int → Int → Option (Bool)
 | 0, _, _, _ => none
 | k + 1, x28, x29, x30 => if x30 < x29 then (if 0 ≤ x30 then (if x30 < (x28.length : Int) then ((simplify_Nullable.f k ((rd_T24 x28 x30).f0) ((rd_T24 x28 x30).f1) ((rd_T24 x28 x30).f2)).bind fun t399 => (if t399 = true then (simplify_Nullable.l1 k x28 x29 (wrap64 (x30 + 1))) else (some false))) else (none)) else (none)) else (some true)
def simplify_Nullable.f : Nat → Int → Int → List (S24) → Option (Bool)
 | 0, _, _, _ => none
 | k + 1, a0_0, a0_1, l0_2 => if a0_0 = 2 then (simplify_Nullable.j0 k a0_0 (a0_0 == 2) a0_0 a0_1 l0_2) else (simplify_Nullable.j0 k a0_0 (a0_0 == 7) a0_0 a0_1 l0_2)
end
theorem simplify_Nullable.mono_l : ∀ k, (∀ y0 y1 y2, LeO (simplify_Nullable.f k y0 y1 y2) (simplify_Nullable.f (k + 1) y0 y1 y2)) ∧ (∀ y0 y1 y2 y3 y4, LeO (simplify_Nullable.j0 k y0 y1 y2 y3 y4) (simplify_Nullable.j0 (k + 1) y0 y1 y2 y3 y4)) ∧ (∀ y0 y1 y2, LeO (simplify_Nullable.l0 k y0 y1 y2) (simplify_Nullable.l0 (k + 1) y0 y1 y2)) ∧ (∀ y0 y1 y2 y3 y4, LeO (simplify_Nullable.j2 k y0 y1 y2 y3 y4) (simplify_Nullable.j2 (k + 1) y0 y1 y2 y3 y4)) ∧ (∀ y0 y1 y2, LeO (simplify_Nullable.l1 k y0 y1 y2) (simplify_Nullable.l1 (k + 1) y0 y1 y2))
 | 0 => ⟨fun _ _ _ r h => by simp [simplify_Nullable.f] at h, fun _ _ _ _ _ r h => by simp [simplify_Nullable.j0] at h, fun _ _ _ r h => by simp [simplify_Nullable.l0] at h, fun _ _ _ _ _ r h => by simp [simplify_Nullable.j2] at h, fun _ _ _ r h => by simp [simplify_Nullable.l1] at h⟩
 | k + 1 => by
  obtain ⟨ih0, ih1, ih2, ih3, ih4⟩ := simplify_Nullable.mono_l k
  refine ⟨?_, ?_, ?_, ?_, ?_⟩
  ·intro y0 y1 y2
   unfold simplify_Nullable.f
   repeat' first
   | (with_reducible exact ih0 _ _ _)
   | (with_reducible exact ih1 _ _ _ _ _)
   | (with_reducible exact ih2 _ _ _)
   | (with_reducible exact ih3 _ _ _ _ _)
   | (with_reducible exact ih4 _ _ _)
   | (with_reducible exact LeO.refl _)
   | (with_reducible exact LeO.none _)
   | (with_reducible refine LeO.ite ?_ ?_)
   | (with_reducible refine LeO.bind ?_ (fun _ => ?_))
   | exact ih0 _ _ _
   | exact ih1 _ _ _ _ _
   | exact ih2 _ _ _
   | exact ih3 _ _ _ _ _
   | exact ih4 _ _ _
   | exact LeO.none _
   | refine LeO.ite ?_ ?_
   | refine LeO.bind ?_ (fun _ => ?_)
  ·intro y0 y1 y2 y3 y4
   unfold simplify_Nullable.j0
   repeat' first
   | (with_reducible exact ih0 _ _ _)
   | (with_reducible exact ih1 _ _ _ _ _)
   | (with_reducible exact ih2 _ _ _)
   | (with_reducible exact ih3 _ _ _ _ _)
   | (with_reducible exact ih4 _ _ _)
   | (with_reducible exact LeO.refl _)
   | (with_reducible exact LeO.none _)
   | (with_reducible refine LeO.ite ?_ ?_)
   | (with_reducible refine LeO.bind ?_ (fun _ => ?_))
   | exact ih0 _ _ _
   | exact ih1 _ _ _ _ _
   | exact ih2 _ _ _
   | exact ih3 _ _ _ _ _
   | exact ih4 _ _ _
   | exact LeO.none _
   | refine LeO.ite ?_ ?_
   | refine LeO.bind ?_ (fun _ => ?_)
  ·intro y0 y1 y2
   unfold simplify_Nullable.l0
   repeat' first
   | (with_reducible exact ih0 _ _ _)
   | (with_reducible exact ih1 _ _ _ _ _)
   | (with_reducible exact ih2 _ _ _)
   | (with_reducible exact ih3 _ _ _ _ _)
   | (with_reducible exact ih4 _ _ _)
   | (with_reducible exact LeO.refl _)
   | (with_reducible exact LeO.none _)
   | (with_reducible refine LeO.ite ?_ ?_)
   | (with_reducible refine LeO.bind ?_ (fun _ => ?_))
   | exact ih0 _ _ _
   | exact ih1 _ _ _ _ _
   | exact ih2 _ _ _
   | exact ih3 _ _ _ _ _
   | exact ih4 _ _ _
   | exact LeO.none _
   | refine LeO.ite ?_ ?_
   | refine LeO.bind ?_ (fun _ => ?_)
  ·intro y0 y1 y2 y3 y4
   unfold simplify_Nullable.j2
   repeat' first
   | (with_reducible exact ih0 _ _ _)
   | (with_reducible exact ih1 _ _ _ _ _)
   | (with_reducible exact ih2 _ _ _)
   | (with_reducible exact ih3 _ _ _ _ _)
   | (with_reducible exact ih4 _ _ _)
   | (with_reducible exact LeO.refl _)
   | (with_reducible exact LeO.none _)
   | (with_reducible refine LeO.ite ?_ ?_)
   | (with_reducible refine LeO.bind ?_ (fun _ => ?_))
   | exact ih0 _ _ _
   | exact ih1 _ _ _ _ _
   | exact ih2 _ _ _
   | exact ih3 _ _ _ _ _
   | exact ih4 _ _ _
   | exact LeO.none _
   | refine LeO.ite ?_ ?_
   | refine LeO.bind ?_ (fun _ => ?_)
  ·intro y0 y1 y2
   unfold simplify_Nullable.l1
   repeat' first
   | (with_reducible exact ih0 _ _ _)
   | (with_reducible exact ih1 _ _ _ _ _)
   | (with_reducible exact ih2 _ _ _)
   | (with_reducible exact ih3 _ _ _ _ _)
   | (with_reducible exact ih4 _ _ _)
   | (with_reducible exact LeO.refl _)
   | (with_reducible exact LeO.none _)
   | (with_reducible refine LeO.ite ?_ ?_)
   | (with_reducible refine LeO.bind ?_ (fun _ => ?_))
   | exact ih0 _ _ _
   | exact ih1 _ _ _ _ _
   | exact ih2 _ _ _
   | exact ih3 _ _ _ _ _
   | exact ih4 _ _ _
   | exact LeO.none _
   | refine LeO.ite ?_ ?_
   | refine LeO.bind ?_ (fun _ => ?_)
theorem simplify_Nullable.mono : ∀ a0 a1 a2 k, LeO (simplify_Nullable.f k a0 a1 a2) (simplify_Nullable.f (k + 1) a0 a1 a2) := by
 intro a0 a1 a2 k
 obtain ⟨ih0, ih1, ih2, ih3, ih4⟩ := simplify_Nullable.mono_l k
 exact ih0 a0 a1 a2
set_option maxHeartbeats 8000000 in
set_option maxRecDepth 100000 in
theorem simplify_Nullable.calls (k : Nat) : ∀ (a0_0 : Int) (a0_1 : Int) (A0_2 : Option Addr) (c0_2 : Nat) (l0_2 : List (S24)) (r : Bool) (w : World) (hr0_2 : Kd.C k24 w A0_2 l0_2.length l0_2) (hc0_2 : l0_2.length ≤ c0_2) (h : simplify_Nullable.f k a0_0 a0_1 l0_2 = some r),
  Calls Try.prog 57 #[.agg #[.int .i64 a0_0, .int .i64 a0_1, .slice A0_2 l0_2.length c0_2]] w fun e w' => e = .returned (.bool r) ∧ Below w.heap.size w w' := by
 induction k using Nat.strongRecOn with
 | _ k ih =>
 intro a0_0 a0_1 A0_2 c0_2 l0_2 r w hr0_2 hc0_2 h
 cases k with
 | zero => exact absurd h (by simp [simplify_Nullable.f])
 | succ k =>
 simp only [simplify_Nullable.f] at h
 have hu24 := Try.underlying24
 have HR0_2 := Aside0.mk hr0_2
 have HC0_2 := Aside0.mk hc0_2
 clear hr0_2 hc0_2
 have HB := Aside0.mk (Below.refl w.heap.size w)
 have H : (if a0_0 = 2 then (simplify_Nullable.j0 k a0_0 (a0_0 == 2) a0_0 a0_1 l0_2) else (simplify_Nullable.j0 k a0_0 (a0_0 == 7) a0_0 a0_1 l0_2)) = some r := h
 clear h
 have HC2 := Aside0.mk H
 clear H
 go_enter Try.func57, Try.ntmps57
 go_upto_if 9 with (first | ((with_reducible refine gate_dst (N := 1) rfl ?_); refine box_event ?hg (N := 1) ?hd (cs := #[.int .i64 a0_0, .int .i64 a0_1, .slice A0_2 l0_2.length c0_2]) (t := 24) ?hr ?_; (case hd => rfl); (case hg => rfl); (case hr => first | (go_simp; done) | (go_simp; rfl)); intro gb393 hg w3 hbox hb; have n0_ := Aside0.mk (below_step (bB) hb); have n1_ := Aside0.mk (hbox); have n2_ := Aside0.mk ((by rw [hg]; exact (below_size (bB)) : w.heap.size ≤ gb393)); have n3_ := Aside0.mk ((by rw [hg]; exact (below_size (bB)) : w.heap.size ≤ gb393)); clear HB; have HB := n0_; have BK393 := n1_; have GW393 := n2_; have GE393 := n3_; clear n0_ n1_ n2_ n3_; clear hb hbox hg; have hcz4_0 : w3.cell? ⟨gb393, 0, none⟩ = some (.int .i64 a0_0) := (blk_cell BK393.out 0).trans rfl; have hcz4_1 : w3.cell? ⟨gb393, 1, none⟩ = some (.int .i64 a0_1) := (blk_cell BK393.out 1).trans rfl; have hcz4_2 : w3.cell? ⟨gb393, 2, none⟩ = some (.slice A0_2 l0_2.length c0_2) := (blk_cell BK393.out 2).trans rfl; have hfz4_0 := blk_frozen BK393.out 0; have hfz4_1 := blk_frozen BK393.out 1; have hfz4_2 := blk_frozen BK393.out 2))
 (try simp only [Act.put, List.setIfInBounds_toArray, List.set_cons_zero, List.set_cons_succ])
 go_cut [9] (fun v9 wc => ∃ (kq : Nat) (x9_1 : Bool), v9 = .bool x9_1 ∧ Aside0 (simplify_Nullable.j0 kq a0_0 x9_1 a0_0 a0_1 l0_2 = some r) ∧ Aside0 (kq ≤ k) ∧ Aside0 (wc.heap[gb393]? = some (.cells #[.int .i64 a0_0, .int .i64 a0_1, (.slice A0_2 l0_2.length c0_2)] 24 (0, 0))) ∧ Aside0 (Below w.heap.size w wc))
 case first =>
  have H := HC2.out
  clear HC2
  by_cases c5 : a0_0 = 2
  ·rw [if_pos c5] at H
   have c5b0 : (a0_0 == 2) = true := beq_iff_eq.mpr c5
   have c5b1 : (a0_0 != 2) = false := bne_eq_false_iff_eq.mpr c5
   clear c5
   (first | rw [c5b0] | (simp only [i64_w, i32_w]; rw [c5b0]) | skip)
   have H' := Aside0.mk H
   clear H
   go_wp2
   go_meet
   case rel => exact ⟨_, ((a0_0 == 2)), (by first | rfl | (simp; done) | (simp [*]; done)), H', ⟨by first | omega | exact Nat.le_refl _⟩, ⟨bK⟩, ⟨bB⟩⟩
  ·rw [if_neg c5] at H
   have c5b0 : (a0_0 == 2) = false := beq_eq_false_iff_ne.mpr c5
   have c5b1 : (a0_0 != 2) = true := bne_iff_ne.mpr c5
   (first | rw [c5b0] | (simp only [i64_w, i32_w]; rw [c5b0]) | skip)
   have H' := Aside0.mk H
   clear H
   go_wp2
   go_meet
   case rel => exact ⟨_, ((a0_0 == 7)), (by first | rfl | (simp; done) | (simp [*]; done)), H', ⟨by first | omega | exact Nat.le_refl _⟩, ⟨bK⟩, ⟨bB⟩⟩
 case rest =>
  clear HC2
  try clear p2
  try clear c5
  try clear c5b0
  try clear c5b1
  try clear hcz4_0
  try clear hcz4_1
  try clear hcz4_2
  try clear hfz4_0
  try clear hfz4_1
  try clear hfz4_2
  obtain ⟨kq, x9_1, rfl, HA, HJ1, BK393, HB⟩ := hcut
  cases kq with
  | zero => exact absurd HA.out (by simp [simplify_Nullable.j0])
  | succ kj1 =>
   have H := HA.out
   clear HA
   simp only [simplify_Nullable.j0] at H
   by_cases c6 : x9_1 = true
   ·subst c6
    have H1 : (some true) = some r := by rw [if_pos rfl] at H; exact H
    clear H
    have H := H1
    clear H1
    obtain rfl := Option.some.inj H
    go_wp2
    go_ret
    exact ⟨by first | rfl | (simp [errW_none, errW_some] <;> rfl) | (simp [*, errW_none, errW_some] <;> rfl), bB⟩
   ·replace c6 := Bool.eq_false_iff.mpr c6
    subst c6
    have H1 : (if a0_0 = 4 then (simplify_Nullable.l0 kj1 l0_2 (l0_2.length : Int) 0) else (if a0_0 = 5 then (simplify_Nullable.j2 kj1 a0_0 (a0_0 == 5) a0_0 a0_1 l0_2) else (simplify_Nullable.j2 kj1 a0_0 (a0_0 == 6) a0_0 a0_1 l0_2))) = some r := by rw [if_neg (show ¬ (false = true) by decide)] at H; exact H
    clear H
    have H := H1
    clear H1
    by_cases c7 : a0_0 = 4
    ·rw [if_pos c7] at H
     have c7b0 : (a0_0 == 4) = true := beq_iff_eq.mpr c7
     have c7b1 : (a0_0 != 4) = false := bne_eq_false_iff_eq.mpr c7
     clear c7
     have H' := Aside0.mk H
     clear H
     have hcz8_0 : wc.cell? ⟨gb393, 0, none⟩ = some (.int .i64 a0_0) := (blk_cell BK393.out 0).trans rfl
     have hcz8_1 : wc.cell? ⟨gb393, 1, none⟩ = some (.int .i64 a0_1) := (blk_cell BK393.out 1).trans rfl
     have hcz8_2 : wc.cell? ⟨gb393, 2, none⟩ = some (.slice A0_2 l0_2.length c0_2) := (blk_cell BK393.out 2).trans rfl
     have hfz8_0 := blk_frozen BK393.out 0
     have hfz8_1 := blk_frozen BK393.out 1
     have hfz8_2 := blk_frozen BK393.out 2
     go_wp2
     go_loopg [17] kj1 (fun kq v17 w' => ∃ (x17_2 : Int), v17 = .int .i64 x17_2 ∧ Aside0 (simplify_Nullable.l0 kq l0_2 (l0_2.length : Int) x17_2 = some r) ∧ Aside0 (kq ≤ kj1) ∧ Aside0 (w'.heap[gb393]? = some (.cells #[.int .i64 a0_0, .int .i64 a0_1, (.slice A0_2 l0_2.length c0_2)] 24 (0, 0))) ∧ Aside0 (Below w.heap.size w w'))
     case atStart => exact ⟨(0), (by first | rfl | (simp; done) | (simp [*]; done)), H', ⟨Nat.le_refl _⟩, ⟨bK⟩, ⟨bB⟩⟩
     case round =>
      clear H'
      try clear p2
      try clear c5
      try clear c5b0
      try clear c5b1
      try clear c6
      try clear c7
      try clear c7b0
      try clear c7b1
      try clear hcz4_0
      try clear hcz4_1
      try clear hcz4_2
      try clear hcz8_0
      try clear hcz8_1
      try clear hcz8_2
      try clear hfz4_0
      try clear hfz4_1
      try clear hfz4_2
      try clear hfz8_0
      try clear hfz8_1
      try clear hfz8_2
      try clear p2
      obtain ⟨x17_2, rfl, HA, HK2, BK393, HB⟩ := hrel
      cases gk with
      | zero => exact absurd HA.out (by simp [simplify_Nullable.l0])
      | succ k2 =>
       have H := HA.out
       clear HA
       simp only [simplify_Nullable.l0] at H
       by_cases c9 : x17_2 < (l0_2.length : Int)
       ·rw [if_pos c9] at H
        have c9b0 : decide (x17_2 < (l0_2.length : Int)) = true := decide_eq_true c9
        clear c9
        by_cases c10 : 0 ≤ x17_2
        ·rw [if_pos c10] at H
         have c10b0 : decide (0 ≤ x17_2) = true := decide_eq_true c10
         clear c10
         by_cases c11 : x17_2 < (l0_2.length : Int)
         ·rw [if_pos c11] at H
          have c11b0 : decide (x17_2 < (l0_2.length : Int)) = true := decide_eq_true c11
          clear c11
          replace H := Option.bind_eq_some_iff.mp H
          obtain ⟨t396, A120, H⟩ := H
          replace H : (if t396 = true then (some true) else (simplify_Nullable.l0 k2 l0_2 (l0_2.length : Int) (wrap64 (x17_2 + 1)))) = some r := H
          have A12 := Aside0.mk A120
          clear A120
          by_cases c13 : t396 = true
          ·subst c13
           have H1 : (some true) = some r := by rw [if_pos rfl] at H; exact H
           clear H
           have H := H1
           clear H1
           obtain rfl := Option.some.inj H
           have p394 : 0 ≤ (x17_2 : Int) := of_decide_eq_true (by first | (with_reducible assumption) | assumption)
           have q394 : x17_2 < (l0_2.length : Int) := of_decide_eq_true (by first | (with_reducible assumption) | assumption)
           obtain ⟨ad394, A394_2, c394_2, e394, hx394_0, hx394_1, hx394_2, hl394_2, hi394_2⟩ := at_T24 HR0_2.out x17_2 p394 q394
           cases e394
           replace hx394_0 := (HB.out.cell (World.block_lt_of_cell? w _ hx394_0)).trans hx394_0
           replace hx394_1 := (HB.out.cell (World.block_lt_of_cell? w _ hx394_1)).trans hx394_1
           replace hx394_2 := (HB.out.cell (World.block_lt_of_cell? w _ hx394_2)).trans hx394_2
           have HR394_2 := Aside0.mk hi394_2
           have HC394_2 := Aside0.mk hl394_2
           clear hi394_2 hl394_2
           replace p394 := eq_true p394
           replace q394 := eq_true q394
           go_wp2_with (first | ((with_reducible refine gate_dst (N := 4) rfl ?_); refine box_event ?hg (N := 4) ?hd (cs := #[.int .i64 0, .int .i64 0, .slice none 0 0]) (t := 24) ?hr ?_; (case hd => rfl); (case hg => rfl); (case hr => first | (go_simp; done) | (go_simp; rfl)); intro gb395 hg w14 hbox hb; have n0_ := Aside0.mk (blk_below (g := gb393) (o := .cells #[.int .i64 a0_0, .int .i64 a0_1, .slice (some ad394) l0_2.length c0_2] 24 (0, 0)) (bK) hb); have n1_ := Aside0.mk (below_step (bB) hb); have n2_ := Aside0.mk (hbox); have n3_ := Aside0.mk ((by rw [hg]; exact (below_size (bB)) : w.heap.size ≤ gb395)); have n4_ := Aside0.mk ((by rw [hg]; exact (below_size (bB)) : w.heap.size ≤ gb395)); have n5_ := Aside0.mk ((by rw [hg]; exact Nat.ne_of_lt (blk_lt (g := gb393) (o := .cells #[.int .i64 a0_0, .int .i64 a0_1, .slice (some ad394) l0_2.length c0_2] 24 (0, 0)) (bK)) : gb393 ≠ gb395)); have n6_ := Aside0.mk ((by rw [hg]; exact Nat.ne_of_gt (blk_lt (g := gb393) (o := .cells #[.int .i64 a0_0, .int .i64 a0_1, .slice (some ad394) l0_2.length c0_2] 24 (0, 0)) (bK)) : gb395 ≠ gb393)); clear BK393; clear HB; have BK393 := n0_; have HB := n1_; have BK395 := n2_; have GW395 := n3_; have GE395 := n4_; have NB393_395 := n5_; have NB395_393 := n6_; clear n0_ n1_ n2_ n3_ n4_ n5_ n6_; clear hb hbox hg; have hnb15 := NB395_393.out; have hnc15 := NB393_395.out; have hcz16_0 : w14.cell? ⟨gb395, 0, none⟩ = some (.int .i64 0) := (blk_cell BK395.out 0).trans rfl; have hcz16_1 : w14.cell? ⟨gb395, 1, none⟩ = some (.int .i64 0) := (blk_cell BK395.out 1).trans rfl; have hcz16_2 : w14.cell? ⟨gb395, 2, none⟩ = some (.slice none 0 0) := (blk_cell BK395.out 2).trans rfl; have hfz16_0 := blk_frozen BK395.out 0; have hfz16_1 := blk_frozen BK395.out 1; have hfz16_2 := blk_frozen BK395.out 2) | ((with_reducible refine gate_callee (f := 57) rfl ?_); refine goesL_ (some 22) rfl rfl Try.func57 (by kernel_rfl) rfl #[.agg #[.int .i64 ((rd_T24 l0_2 x17_2).f0), .int .i64 ((rd_T24 l0_2 x17_2).f1), .slice A394_2 ((rd_T24 l0_2 x17_2).f2).length c394_2]] rfl (by (try simp only [List.map_toArray, List.map_cons, List.map_nil]); first | done | rfl | (simp only [List.length_drop, List.length_take]; rfl) | (simp only [Int.ofNat_lt, Int.ofNat_le]; rfl)) ?_; (with_reducible refine (ih k2 (by have := HJ1.out; have := HK2.out; omega) ((rd_T24 l0_2 x17_2).f0) ((rd_T24 l0_2 x17_2).f1) _ _ ((rd_T24 l0_2 x17_2).f2) true _ ?side1 ?side2 A12.out).mono ?_); (case side1 => exact Kd.C_below HR394_2.out (bB)); (case side2 => exact HC394_2.out); rintro e w17 ⟨rfl, hb⟩; refine ⟨_, rfl, ?_⟩; have n0_ := Aside0.mk (blk_below (g := gb393) (o := .cells #[.int .i64 a0_0, .int .i64 a0_1, .slice (some ad394) l0_2.length c0_2] 24 (0, 0)) (by (with_reducible repeat (first | refine blk_drewN ?_ _ | refine blk_drew ?_ | refine blk_alloc ?_ _)); refine blk_far ?_ NB393_395.out _; (with_reducible repeat (first | refine blk_drewN ?_ _ | refine blk_drew ?_ | refine blk_alloc ?_ _)); refine blk_far ?_ NB393_395.out _; (with_reducible repeat (first | refine blk_drewN ?_ _ | refine blk_drew ?_ | refine blk_alloc ?_ _)); refine blk_far ?_ NB393_395.out _; (with_reducible repeat (first | refine blk_drewN ?_ _ | refine blk_drew ?_ | refine blk_alloc ?_ _)); exact BK393.out) hb); have n1_ := Aside0.mk (blk_below (g := gb395) (o := .cells #[.int .i64 ((rd_T24 l0_2 x17_2).f0), .int .i64 ((rd_T24 l0_2 x17_2).f1), .slice A394_2 ((rd_T24 l0_2 x17_2).f2).length c394_2] 24 (0, 0)) (by (with_reducible repeat (first | refine blk_drewN ?_ _ | refine blk_drew ?_ | refine blk_alloc ?_ _)); refine blk_put (cs := #[.int .i64 ((rd_T24 l0_2 x17_2).f0), .int .i64 ((rd_T24 l0_2 x17_2).f1), .slice none 0 0]) ?_ 2 _ rfl; (with_reducible repeat (first | refine blk_drewN ?_ _ | refine blk_drew ?_ | refine blk_alloc ?_ _)); refine blk_put (cs := #[.int .i64 ((rd_T24 l0_2 x17_2).f0), .int .i64 0, .slice none 0 0]) ?_ 1 _ rfl; (with_reducible repeat (first | refine blk_drewN ?_ _ | refine blk_drew ?_ | refine blk_alloc ?_ _)); refine blk_put (cs := #[.int .i64 0, .int .i64 0, .slice none 0 0]) ?_ 0 _ rfl; (with_reducible repeat (first | refine blk_drewN ?_ _ | refine blk_drew ?_ | refine blk_alloc ?_ _)); exact BK395.out) hb); have n2_ := Aside0.mk (below_step (bB) hb); clear BK393; clear BK395; clear HB; have BK393 := n0_; have BK395 := n1_; have HB := n2_; clear n0_ n1_ n2_; (try clear hb); (try clear hb2); (try clear hk); (try clear hi)))
           go_ret
           exact ⟨by first | rfl | (simp [errW_none, errW_some] <;> rfl) | (simp [*, errW_none, errW_some] <;> rfl), bB⟩
          ·replace c13 := Bool.eq_false_iff.mpr c13
           subst c13
           have H1 : (simplify_Nullable.l0 k2 l0_2 (l0_2.length : Int) (wrap64 (x17_2 + 1))) = some r := by rw [if_neg (show ¬ (false = true) by decide)] at H; exact H
           clear H
           have H := H1
           clear H1
           have H' := Aside0.mk H
           clear H
           have p394 : 0 ≤ (x17_2 : Int) := of_decide_eq_true (by first | (with_reducible assumption) | assumption)
           have q394 : x17_2 < (l0_2.length : Int) := of_decide_eq_true (by first | (with_reducible assumption) | assumption)
           obtain ⟨ad394, A394_2, c394_2, e394, hx394_0, hx394_1, hx394_2, hl394_2, hi394_2⟩ := at_T24 HR0_2.out x17_2 p394 q394
           cases e394
           replace hx394_0 := (HB.out.cell (World.block_lt_of_cell? w _ hx394_0)).trans hx394_0
           replace hx394_1 := (HB.out.cell (World.block_lt_of_cell? w _ hx394_1)).trans hx394_1
           replace hx394_2 := (HB.out.cell (World.block_lt_of_cell? w _ hx394_2)).trans hx394_2
           have HR394_2 := Aside0.mk hi394_2
           have HC394_2 := Aside0.mk hl394_2
           clear hi394_2 hl394_2
           replace p394 := eq_true p394
           replace q394 := eq_true q394
           go_wp2_with (first | ((with_reducible refine gate_dst (N := 4) rfl ?_); refine box_event ?hg (N := 4) ?hd (cs := #[.int .i64 0, .int .i64 0, .slice none 0 0]) (t := 24) ?hr ?_; (case hd => rfl); (case hg => rfl); (case hr => first | (go_simp; done) | (go_simp; rfl)); intro gb395 hg w18 hbox hb; have n0_ := Aside0.mk (blk_below (g := gb393) (o := .cells #[.int .i64 a0_0, .int .i64 a0_1, .slice (some ad394) l0_2.length c0_2] 24 (0, 0)) (bK) hb); have n1_ := Aside0.mk (below_step (bB) hb); have n2_ := Aside0.mk (hbox); have n3_ := Aside0.mk ((by rw [hg]; exact (below_size (bB)) : w.heap.size ≤ gb395)); have n4_ := Aside0.mk ((by rw [hg]; exact (below_size (bB)) : w.heap.size ≤ gb395)); have n5_ := Aside0.mk ((by rw [hg]; exact Nat.ne_of_lt (blk_lt (g := gb393) (o := .cells #[.int .i64 a0_0, .int .i64 a0_1, .slice (some ad394) l0_2.length c0_2] 24 (0, 0)) (bK)) : gb393 ≠ gb395)); have n6_ := Aside0.mk ((by rw [hg]; exact Nat.ne_of_gt (blk_lt (g := gb393) (o := .cells #[.int .i64 a0_0, .int .i64 a0_1, .slice (some ad394) l0_2.length c0_2] 24 (0, 0)) (bK)) : gb395 ≠ gb393)); clear BK393; clear HB; have BK393 := n0_; have HB := n1_; have BK395 := n2_; have GW395 := n3_; have GE395 := n4_; have NB393_395 := n5_; have NB395_393 := n6_; clear n0_ n1_ n2_ n3_ n4_ n5_ n6_; clear hb hbox hg; have hnb19 := NB395_393.out; have hnc19 := NB393_395.out; have hcz20_0 : w18.cell? ⟨gb395, 0, none⟩ = some (.int .i64 0) := (blk_cell BK395.out 0).trans rfl; have hcz20_1 : w18.cell? ⟨gb395, 1, none⟩ = some (.int .i64 0) := (blk_cell BK395.out 1).trans rfl; have hcz20_2 : w18.cell? ⟨gb395, 2, none⟩ = some (.slice none 0 0) := (blk_cell BK395.out 2).trans rfl; have hfz20_0 := blk_frozen BK395.out 0; have hfz20_1 := blk_frozen BK395.out 1; have hfz20_2 := blk_frozen BK395.out 2) | ((with_reducible refine gate_callee (f := 57) rfl ?_); refine goesL_ (some 22) rfl rfl Try.func57 (by kernel_rfl) rfl #[.agg #[.int .i64 ((rd_T24 l0_2 x17_2).f0), .int .i64 ((rd_T24 l0_2 x17_2).f1), .slice A394_2 ((rd_T24 l0_2 x17_2).f2).length c394_2]] rfl (by (try simp only [List.map_toArray, List.map_cons, List.map_nil]); first | done | rfl | (simp only [List.length_drop, List.length_take]; rfl) | (simp only [Int.ofNat_lt, Int.ofNat_le]; rfl)) ?_; (with_reducible refine (ih k2 (by have := HJ1.out; have := HK2.out; omega) ((rd_T24 l0_2 x17_2).f0) ((rd_T24 l0_2 x17_2).f1) _ _ ((rd_T24 l0_2 x17_2).f2) false _ ?side1 ?side2 A12.out).mono ?_); (case side1 => exact Kd.C_below HR394_2.out (bB)); (case side2 => exact HC394_2.out); rintro e w21 ⟨rfl, hb⟩; refine ⟨_, rfl, ?_⟩; have n0_ := Aside0.mk (blk_below (g := gb393) (o := .cells #[.int .i64 a0_0, .int .i64 a0_1, .slice (some ad394) l0_2.length c0_2] 24 (0, 0)) (by (with_reducible repeat (first | refine blk_drewN ?_ _ | refine blk_drew ?_ | refine blk_alloc ?_ _)); refine blk_far ?_ NB393_395.out _; (with_reducible repeat (first | refine blk_drewN ?_ _ | refine blk_drew ?_ | refine blk_alloc ?_ _)); refine blk_far ?_ NB393_395.out _; (with_reducible repeat (first | refine blk_drewN ?_ _ | refine blk_drew ?_ | refine blk_alloc ?_ _)); refine blk_far ?_ NB393_395.out _; (with_reducible repeat (first | refine blk_drewN ?_ _ | refine blk_drew ?_ | refine blk_alloc ?_ _)); exact BK393.out) hb); have n1_ := Aside0.mk (blk_below (g := gb395) (o := .cells #[.int .i64 ((rd_T24 l0_2 x17_2).f0), .int .i64 ((rd_T24 l0_2 x17_2).f1), .slice A394_2 ((rd_T24 l0_2 x17_2).f2).length c394_2] 24 (0, 0)) (by (with_reducible repeat (first | refine blk_drewN ?_ _ | refine blk_drew ?_ | refine blk_alloc ?_ _)); refine blk_put (cs := #[.int .i64 ((rd_T24 l0_2 x17_2).f0), .int .i64 ((rd_T24 l0_2 x17_2).f1), .slice none 0 0]) ?_ 2 _ rfl; (with_reducible repeat (first | refine blk_drewN ?_ _ | refine blk_drew ?_ | refine blk_alloc ?_ _)); refine blk_put (cs := #[.int .i64 ((rd_T24 l0_2 x17_2).f0), .int .i64 0, .slice none 0 0]) ?_ 1 _ rfl; (with_reducible repeat (first | refine blk_drewN ?_ _ | refine blk_drew ?_ | refine blk_alloc ?_ _)); refine blk_put (cs := #[.int .i64 0, .int .i64 0, .slice none 0 0]) ?_ 0 _ rfl; (with_reducible repeat (first | refine blk_drewN ?_ _ | refine blk_drew ?_ | refine blk_alloc ?_ _)); exact BK395.out) hb); have n2_ := Aside0.mk (below_step (bB) hb); clear BK393; clear BK395; clear HB; have BK393 := n0_; have BK395 := n1_; have HB := n2_; clear n0_ n1_ n2_; (try clear hb); (try clear hb2); (try clear hk); (try clear hi)))
           (first | go_roundg k2 | ((simp only [add_plain] at *); go_roundg k2))
           case measure => have := HJ1.out; have := HK2.out; omega
           case rel => exact ⟨(wrap64 (x17_2 + 1)), (by first | rfl | (simp; done) | (simp [*]; done)), H', ⟨by have := HJ1.out; have := HK2.out; omega⟩, ⟨bK⟩, ⟨bB⟩⟩
         ·rw [if_neg c11] at H
          exact absurd H (by simp)
        ·rw [if_neg c10] at H
         exact absurd H (by simp)
       ·rw [if_neg c9] at H
        have c9b0 : decide (x17_2 < (l0_2.length : Int)) = false := decide_eq_false c9
        clear c9
        obtain rfl := Option.some.inj H
        go_wp2
        go_ret
        exact ⟨by first | rfl | (simp [errW_none, errW_some] <;> rfl) | (simp [*, errW_none, errW_some] <;> rfl), bB⟩
    ·rw [if_neg c7] at H
     have c7b0 : (a0_0 == 4) = false := beq_eq_false_iff_ne.mpr c7
     have c7b1 : (a0_0 != 4) = true := bne_iff_ne.mpr c7
     have HC22 := Aside0.mk H
     clear H
     go_upto_if 24 with (fail)
     go_cut [24] (fun v24 wc => ∃ (kq : Nat) (x24_21 : Bool), v24 = .bool x24_21 ∧ Aside0 (simplify_Nullable.j2 kq a0_0 x24_21 a0_0 a0_1 l0_2 = some r) ∧ Aside0 (kq ≤ kj1) ∧ Aside0 (wc.heap[gb393]? = some (.cells #[.int .i64 a0_0, .int .i64 a0_1, (.slice A0_2 l0_2.length c0_2)] 24 (0, 0))) ∧ Aside0 (Below w.heap.size w wc))
     case first =>
      have H := HC22.out
      clear HC22
      by_cases c23 : a0_0 = 5
      ·rw [if_pos c23] at H
       have c23b0 : (a0_0 == 5) = true := beq_iff_eq.mpr c23
       have c23b1 : (a0_0 != 5) = false := bne_eq_false_iff_eq.mpr c23
       clear c23
       (first | rw [c23b0] | (simp only [i64_w, i32_w]; rw [c23b0]) | skip)
       have H' := Aside0.mk H
       clear H
       go_wp2
       go_meet
       case rel => exact ⟨_, ((a0_0 == 5)), (by first | rfl | (simp; done) | (simp [*]; done)), H', ⟨by have := HJ1.out; first | omega | exact Nat.le_refl _⟩, ⟨bK⟩, ⟨bB⟩⟩
      ·rw [if_neg c23] at H
       have c23b0 : (a0_0 == 5) = false := beq_eq_false_iff_ne.mpr c23
       have c23b1 : (a0_0 != 5) = true := bne_iff_ne.mpr c23
       (first | rw [c23b0] | (simp only [i64_w, i32_w]; rw [c23b0]) | skip)
       have H' := Aside0.mk H
       clear H
       go_wp2
       go_meet
       case rel => exact ⟨_, ((a0_0 == 6)), (by first | rfl | (simp; done) | (simp [*]; done)), H', ⟨by have := HJ1.out; first | omega | exact Nat.le_refl _⟩, ⟨bK⟩, ⟨bB⟩⟩
     case rest =>
      clear HC22
      try clear c1
      try clear c2
      try clear p2
      try clear c3
      try clear p3
      try clear q3
      try clear hx3
      try clear c5
      try clear c5b0
      try clear c5b1
      try clear c6
      try clear p6
      try clear c7
      try clear c7b0
      try clear c7b1
      try clear c9
      try clear c9b0
      try clear c10
      try clear c10b0
      try clear c11
      try clear c11b0
      try clear c13
      try clear c15
      try clear c19
      try clear c23
      try clear c23b0
      try clear c23b1
      try clear hcz16_0
      try clear hcz16_1
      try clear hcz16_2
      try clear hcz20_0
      try clear hcz20_1
      try clear hcz20_2
      try clear hcz4_0
      try clear hcz4_1
      try clear hcz4_2
      try clear hcz8_0
      try clear hcz8_1
      try clear hcz8_2
      try clear hfz16_0
      try clear hfz16_1
      try clear hfz16_2
      try clear hfz20_0
      try clear hfz20_1
      try clear hfz20_2
      try clear hfz4_0
      try clear hfz4_1
      try clear hfz4_2
      try clear hfz8_0
      try clear hfz8_1
      try clear hfz8_2
      try clear hx394_0
      try clear hx394_1
      try clear hx394_2
      try clear p2
      try clear p394
      try clear q394
      obtain ⟨kq, x24_21, rfl, HA, HJ21, BK393, HB⟩ := hcut
      cases kq with
      | zero => exact absurd HA.out (by simp [simplify_Nullable.j2])
      | succ kj21 =>
       have H := HA.out
       clear HA
       simp only [simplify_Nullable.j2] at H
       by_cases c24 : x24_21 = true
       ·subst c24
        have H1 : (simplify_Nullable.l1 kj21 l0_2 (l0_2.length : Int) 0) = some r := by rw [if_pos rfl] at H; exact H
        clear H
        have H := H1
        clear H1
        have H' := Aside0.mk H
        clear H
        have hcz25_0 : wc.cell? ⟨gb393, 0, none⟩ = some (.int .i64 a0_0) := (blk_cell BK393.out 0).trans rfl
        have hcz25_1 : wc.cell? ⟨gb393, 1, none⟩ = some (.int .i64 a0_1) := (blk_cell BK393.out 1).trans rfl
        have hcz25_2 : wc.cell? ⟨gb393, 2, none⟩ = some (.slice A0_2 l0_2.length c0_2) := (blk_cell BK393.out 2).trans rfl
        have hfz25_0 := blk_frozen BK393.out 0
        have hfz25_1 := blk_frozen BK393.out 1
        have hfz25_2 := blk_frozen BK393.out 2
        go_wp2
        go_loopg [30] kj21 (fun kq v30 w' => ∃ (x30_3 : Int), v30 = .int .i64 x30_3 ∧ Aside0 (simplify_Nullable.l1 kq l0_2 (l0_2.length : Int) x30_3 = some r) ∧ Aside0 (kq ≤ kj21) ∧ Aside0 (w'.heap[gb393]? = some (.cells #[.int .i64 a0_0, .int .i64 a0_1, (.slice A0_2 l0_2.length c0_2)] 24 (0, 0))) ∧ Aside0 (Below w.heap.size w w'))
        case atStart => exact ⟨(0), (by first | rfl | (simp; done) | (simp [*]; done)), H', ⟨Nat.le_refl _⟩, ⟨bK⟩, ⟨bB⟩⟩
        case round =>
         clear H'
         try clear c1
         try clear c2
         try clear p2
         try clear c3
         try clear p3
         try clear q3
         try clear hx3
         try clear c5
         try clear c5b0
         try clear c5b1
         try clear c6
         try clear p6
         try clear c7
         try clear c7b0
         try clear c7b1
         try clear c9
         try clear c9b0
         try clear c10
         try clear c10b0
         try clear c11
         try clear c11b0
         try clear c13
         try clear c15
         try clear c19
         try clear c23
         try clear c23b0
         try clear c23b1
         try clear c24
         try clear hcz16_0
         try clear hcz16_1
         try clear hcz16_2
         try clear hcz20_0
         try clear hcz20_1
         try clear hcz20_2
         try clear hcz25_0
         try clear hcz25_1
         try clear hcz25_2
         try clear hcz4_0
         try clear hcz4_1
         try clear hcz4_2
         try clear hcz8_0
         try clear hcz8_1
         try clear hcz8_2
         try clear hfz16_0
         try clear hfz16_1
         try clear hfz16_2
         try clear hfz20_0
         try clear hfz20_1
         try clear hfz20_2
         try clear hfz25_0
         try clear hfz25_1
         try clear hfz25_2
         try clear hfz4_0
         try clear hfz4_1
         try clear hfz4_2
         try clear hfz8_0
         try clear hfz8_1
         try clear hfz8_2
         try clear hx394_0
         try clear hx394_1
         try clear hx394_2
         try clear p2
         try clear p3
         try clear p394
         try clear p6
         try clear q3
         try clear q394
         obtain ⟨x30_3, rfl, HA, HK3, BK393, HB⟩ := hrel
         cases gk with
         | zero => exact absurd HA.out (by simp [simplify_Nullable.l1])
         | succ k3 =>
          have H := HA.out
          clear HA
          simp only [simplify_Nullable.l1] at H
          by_cases c26 : x30_3 < (l0_2.length : Int)
          ·rw [if_pos c26] at H
           have c26b0 : decide (x30_3 < (l0_2.length : Int)) = true := decide_eq_true c26
           clear c26
           by_cases c27 : 0 ≤ x30_3
           ·rw [if_pos c27] at H
            have c27b0 : decide (0 ≤ x30_3) = true := decide_eq_true c27
            clear c27
            by_cases c28 : x30_3 < (l0_2.length : Int)
            ·rw [if_pos c28] at H
             have c28b0 : decide (x30_3 < (l0_2.length : Int)) = true := decide_eq_true c28
             clear c28
             replace H := Option.bind_eq_some_iff.mp H
             obtain ⟨t399, A290, H⟩ := H
             replace H : (if t399 = true then (simplify_Nullable.l1 k3 l0_2 (l0_2.length : Int) (wrap64 (x30_3 + 1))) else (some false)) = some r := H
             have A29 := Aside0.mk A290
             clear A290
             by_cases c30 : t399 = true
             ·subst c30
              have H1 : (simplify_Nullable.l1 k3 l0_2 (l0_2.length : Int) (wrap64 (x30_3 + 1))) = some r := by rw [if_pos rfl] at H; exact H
              clear H
              have H := H1
              clear H1
              have H' := Aside0.mk H
              clear H
              have p397 : 0 ≤ (x30_3 : Int) := of_decide_eq_true (by first | (with_reducible assumption) | assumption)
              have q397 : x30_3 < (l0_2.length : Int) := of_decide_eq_true (by first | (with_reducible assumption) | assumption)
              obtain ⟨ad397, A397_2, c397_2, e397, hx397_0, hx397_1, hx397_2, hl397_2, hi397_2⟩ := at_T24 HR0_2.out x30_3 p397 q397
              cases e397
              replace hx397_0 := (HB.out.cell (World.block_lt_of_cell? w _ hx397_0)).trans hx397_0
              replace hx397_1 := (HB.out.cell (World.block_lt_of_cell? w _ hx397_1)).trans hx397_1
              replace hx397_2 := (HB.out.cell (World.block_lt_of_cell? w _ hx397_2)).trans hx397_2
              have HR397_2 := Aside0.mk hi397_2
              have HC397_2 := Aside0.mk hl397_2
              clear hi397_2 hl397_2
              replace p397 := eq_true p397
              replace q397 := eq_true q397
              go_wp2_with (first | ((with_reducible refine gate_dst (N := 6) rfl ?_); refine box_event ?hg (N := 6) ?hd (cs := #[.int .i64 0, .int .i64 0, .slice none 0 0]) (t := 24) ?hr ?_; (case hd => rfl); (case hg => rfl); (case hr => first | (go_simp; done) | (go_simp; rfl)); intro gb398 hg w31 hbox hb; have n0_ := Aside0.mk (blk_below (g := gb393) (o := .cells #[.int .i64 a0_0, .int .i64 a0_1, .slice (some ad397) l0_2.length c0_2] 24 (0, 0)) (bK) hb); have n1_ := Aside0.mk (below_step (bB) hb); have n2_ := Aside0.mk (hbox); have n3_ := Aside0.mk ((by rw [hg]; exact (below_size (bB)) : w.heap.size ≤ gb398)); have n4_ := Aside0.mk ((by rw [hg]; exact (below_size (bB)) : w.heap.size ≤ gb398)); have n5_ := Aside0.mk ((by rw [hg]; exact Nat.ne_of_lt (blk_lt (g := gb393) (o := .cells #[.int .i64 a0_0, .int .i64 a0_1, .slice (some ad397) l0_2.length c0_2] 24 (0, 0)) (bK)) : gb393 ≠ gb398)); have n6_ := Aside0.mk ((by rw [hg]; exact Nat.ne_of_gt (blk_lt (g := gb393) (o := .cells #[.int .i64 a0_0, .int .i64 a0_1, .slice (some ad397) l0_2.length c0_2] 24 (0, 0)) (bK)) : gb398 ≠ gb393)); clear BK393; clear HB; have BK393 := n0_; have HB := n1_; have BK398 := n2_; have GW398 := n3_; have GE398 := n4_; have NB393_398 := n5_; have NB398_393 := n6_; clear n0_ n1_ n2_ n3_ n4_ n5_ n6_; clear hb hbox hg; have hnb32 := NB398_393.out; have hnc32 := NB393_398.out; have hcz33_0 : w31.cell? ⟨gb398, 0, none⟩ = some (.int .i64 0) := (blk_cell BK398.out 0).trans rfl; have hcz33_1 : w31.cell? ⟨gb398, 1, none⟩ = some (.int .i64 0) := (blk_cell BK398.out 1).trans rfl; have hcz33_2 : w31.cell? ⟨gb398, 2, none⟩ = some (.slice none 0 0) := (blk_cell BK398.out 2).trans rfl; have hfz33_0 := blk_frozen BK398.out 0; have hfz33_1 := blk_frozen BK398.out 1; have hfz33_2 := blk_frozen BK398.out 2) | ((with_reducible refine gate_callee (f := 57) rfl ?_); refine goesL_ (some 35) rfl rfl Try.func57 (by kernel_rfl) rfl #[.agg #[.int .i64 ((rd_T24 l0_2 x30_3).f0), .int .i64 ((rd_T24 l0_2 x30_3).f1), .slice A397_2 ((rd_T24 l0_2 x30_3).f2).length c397_2]] rfl (by (try simp only [List.map_toArray, List.map_cons, List.map_nil]); first | done | rfl | (simp only [List.length_drop, List.length_take]; rfl) | (simp only [Int.ofNat_lt, Int.ofNat_le]; rfl)) ?_; (with_reducible refine (ih k3 (by have := HJ1.out; have := HJ21.out; have := HK3.out; omega) ((rd_T24 l0_2 x30_3).f0) ((rd_T24 l0_2 x30_3).f1) _ _ ((rd_T24 l0_2 x30_3).f2) true _ ?side1 ?side2 A29.out).mono ?_); (case side1 => exact Kd.C_below HR397_2.out (bB)); (case side2 => exact HC397_2.out); rintro e w34 ⟨rfl, hb⟩; refine ⟨_, rfl, ?_⟩; have n0_ := Aside0.mk (blk_below (g := gb393) (o := .cells #[.int .i64 a0_0, .int .i64 a0_1, .slice (some ad397) l0_2.length c0_2] 24 (0, 0)) (by (with_reducible repeat (first | refine blk_drewN ?_ _ | refine blk_drew ?_ | refine blk_alloc ?_ _)); refine blk_far ?_ NB393_398.out _; (with_reducible repeat (first | refine blk_drewN ?_ _ | refine blk_drew ?_ | refine blk_alloc ?_ _)); refine blk_far ?_ NB393_398.out _; (with_reducible repeat (first | refine blk_drewN ?_ _ | refine blk_drew ?_ | refine blk_alloc ?_ _)); refine blk_far ?_ NB393_398.out _; (with_reducible repeat (first | refine blk_drewN ?_ _ | refine blk_drew ?_ | refine blk_alloc ?_ _)); exact BK393.out) hb); have n1_ := Aside0.mk (blk_below (g := gb398) (o := .cells #[.int .i64 ((rd_T24 l0_2 x30_3).f0), .int .i64 ((rd_T24 l0_2 x30_3).f1), .slice A397_2 ((rd_T24 l0_2 x30_3).f2).length c397_2] 24 (0, 0)) (by (with_reducible repeat (first | refine blk_drewN ?_ _ | refine blk_drew ?_ | refine blk_alloc ?_ _)); refine blk_put (cs := #[.int .i64 ((rd_T24 l0_2 x30_3).f0), .int .i64 ((rd_T24 l0_2 x30_3).f1), .slice none 0 0]) ?_ 2 _ rfl; (with_reducible repeat (first | refine blk_drewN ?_ _ | refine blk_drew ?_ | refine blk_alloc ?_ _)); refine blk_put (cs := #[.int .i64 ((rd_T24 l0_2 x30_3).f0), .int .i64 0, .slice none 0 0]) ?_ 1 _ rfl; (with_reducible repeat (first | refine blk_drewN ?_ _ | refine blk_drew ?_ | refine blk_alloc ?_ _)); refine blk_put (cs := #[.int .i64 0, .int .i64 0, .slice none 0 0]) ?_ 0 _ rfl; (with_reducible repeat (first | refine blk_drewN ?_ _ | refine blk_drew ?_ | refine blk_alloc ?_ _)); exact BK398.out) hb); have n2_ := Aside0.mk (below_step (bB) hb); clear BK393; clear BK398; clear HB; have BK393 := n0_; have BK398 := n1_; have HB := n2_; clear n0_ n1_ n2_; (try clear hb); (try clear hb2); (try clear hk); (try clear hi)))
              (first | go_roundg k3 | ((simp only [add_plain] at *); go_roundg k3))
              case measure => have := HJ1.out; have := HJ21.out; have := HK3.out; omega
              case rel => exact ⟨(wrap64 (x30_3 + 1)), (by first | rfl | (simp; done) | (simp [*]; done)), H', ⟨by have := HJ1.out; have := HJ21.out; have := HK3.out; omega⟩, ⟨bK⟩, ⟨bB⟩⟩
             ·replace c30 := Bool.eq_false_iff.mpr c30
              subst c30
              have H1 : (some false) = some r := by rw [if_neg (show ¬ (false = true) by decide)] at H; exact H
              clear H
              have H := H1
              clear H1
              obtain rfl := Option.some.inj H
              have p397 : 0 ≤ (x30_3 : Int) := of_decide_eq_true (by first | (with_reducible assumption) | assumption)
              have q397 : x30_3 < (l0_2.length : Int) := of_decide_eq_true (by first | (with_reducible assumption) | assumption)
              obtain ⟨ad397, A397_2, c397_2, e397, hx397_0, hx397_1, hx397_2, hl397_2, hi397_2⟩ := at_T24 HR0_2.out x30_3 p397 q397
              cases e397
              replace hx397_0 := (HB.out.cell (World.block_lt_of_cell? w _ hx397_0)).trans hx397_0
              replace hx397_1 := (HB.out.cell (World.block_lt_of_cell? w _ hx397_1)).trans hx397_1
              replace hx397_2 := (HB.out.cell (World.block_lt_of_cell? w _ hx397_2)).trans hx397_2
              have HR397_2 := Aside0.mk hi397_2
              have HC397_2 := Aside0.mk hl397_2
              clear hi397_2 hl397_2
              replace p397 := eq_true p397
              replace q397 := eq_true q397
              go_wp2_with (first | ((with_reducible refine gate_dst (N := 6) rfl ?_); refine box_event ?hg (N := 6) ?hd (cs := #[.int .i64 0, .int .i64 0, .slice none 0 0]) (t := 24) ?hr ?_; (case hd => rfl); (case hg => rfl); (case hr => first | (go_simp; done) | (go_simp; rfl)); intro gb398 hg w35 hbox hb; have n0_ := Aside0.mk (blk_below (g := gb393) (o := .cells #[.int .i64 a0_0, .int .i64 a0_1, .slice (some ad397) l0_2.length c0_2] 24 (0, 0)) (bK) hb); have n1_ := Aside0.mk (below_step (bB) hb); have n2_ := Aside0.mk (hbox); have n3_ := Aside0.mk ((by rw [hg]; exact (below_size (bB)) : w.heap.size ≤ gb398)); have n4_ := Aside0.mk ((by rw [hg]; exact (below_size (bB)) : w.heap.size ≤ gb398)); have n5_ := Aside0.mk ((by rw [hg]; exact Nat.ne_of_lt (blk_lt (g := gb393) (o := .cells #[.int .i64 a0_0, .int .i64 a0_1, .slice (some ad397) l0_2.length c0_2] 24 (0, 0)) (bK)) : gb393 ≠ gb398)); have n6_ := Aside0.mk ((by rw [hg]; exact Nat.ne_of_gt (blk_lt (g := gb393) (o := .cells #[.int .i64 a0_0, .int .i64 a0_1, .slice (some ad397) l0_2.length c0_2] 24 (0, 0)) (bK)) : gb398 ≠ gb393)); clear BK393; clear HB; have BK393 := n0_; have HB := n1_; have BK398 := n2_; have GW398 := n3_; have GE398 := n4_; have NB393_398 := n5_; have NB398_393 := n6_; clear n0_ n1_ n2_ n3_ n4_ n5_ n6_; clear hb hbox hg; have hnb36 := NB398_393.out; have hnc36 := NB393_398.out; have hcz37_0 : w35.cell? ⟨gb398, 0, none⟩ = some (.int .i64 0) := (blk_cell BK398.out 0).trans rfl; have hcz37_1 : w35.cell? ⟨gb398, 1, none⟩ = some (.int .i64 0) := (blk_cell BK398.out 1).trans rfl; have hcz37_2 : w35.cell? ⟨gb398, 2, none⟩ = some (.slice none 0 0) := (blk_cell BK398.out 2).trans rfl; have hfz37_0 := blk_frozen BK398.out 0; have hfz37_1 := blk_frozen BK398.out 1; have hfz37_2 := blk_frozen BK398.out 2) | ((with_reducible refine gate_callee (f := 57) rfl ?_); refine goesL_ (some 35) rfl rfl Try.func57 (by kernel_rfl) rfl #[.agg #[.int .i64 ((rd_T24 l0_2 x30_3).f0), .int .i64 ((rd_T24 l0_2 x30_3).f1), .slice A397_2 ((rd_T24 l0_2 x30_3).f2).length c397_2]] rfl (by (try simp only [List.map_toArray, List.map_cons, List.map_nil]); first | done | rfl | (simp only [List.length_drop, List.length_take]; rfl) | (simp only [Int.ofNat_lt, Int.ofNat_le]; rfl)) ?_; (with_reducible refine (ih k3 (by have := HJ1.out; have := HJ21.out; have := HK3.out; omega) ((rd_T24 l0_2 x30_3).f0) ((rd_T24 l0_2 x30_3).f1) _ _ ((rd_T24 l0_2 x30_3).f2) false _ ?side1 ?side2 A29.out).mono ?_); (case side1 => exact Kd.C_below HR397_2.out (bB)); (case side2 => exact HC397_2.out); rintro e w38 ⟨rfl, hb⟩; refine ⟨_, rfl, ?_⟩; have n0_ := Aside0.mk (blk_below (g := gb393) (o := .cells #[.int .i64 a0_0, .int .i64 a0_1, .slice (some ad397) l0_2.length c0_2] 24 (0, 0)) (by (with_reducible repeat (first | refine blk_drewN ?_ _ | refine blk_drew ?_ | refine blk_alloc ?_ _)); refine blk_far ?_ NB393_398.out _; (with_reducible repeat (first | refine blk_drewN ?_ _ | refine blk_drew ?_ | refine blk_alloc ?_ _)); refine blk_far ?_ NB393_398.out _; (with_reducible repeat (first | refine blk_drewN ?_ _ | refine blk_drew ?_ | refine blk_alloc ?_ _)); refine blk_far ?_ NB393_398.out _; (with_reducible repeat (first | refine blk_drewN ?_ _ | refine blk_drew ?_ | refine blk_alloc ?_ _)); exact BK393.out) hb); have n1_ := Aside0.mk (blk_below (g := gb398) (o := .cells #[.int .i64 ((rd_T24 l0_2 x30_3).f0), .int .i64 ((rd_T24 l0_2 x30_3).f1), .slice A397_2 ((rd_T24 l0_2 x30_3).f2).length c397_2] 24 (0, 0)) (by (with_reducible repeat (first | refine blk_drewN ?_ _ | refine blk_drew ?_ | refine blk_alloc ?_ _)); refine blk_put (cs := #[.int .i64 ((rd_T24 l0_2 x30_3).f0), .int .i64 ((rd_T24 l0_2 x30_3).f1), .slice none 0 0]) ?_ 2 _ rfl; (with_reducible repeat (first | refine blk_drewN ?_ _ | refine blk_drew ?_ | refine blk_alloc ?_ _)); refine blk_put (cs := #[.int .i64 ((rd_T24 l0_2 x30_3).f0), .int .i64 0, .slice none 0 0]) ?_ 1 _ rfl; (with_reducible repeat (first | refine blk_drewN ?_ _ | refine blk_drew ?_ | refine blk_alloc ?_ _)); refine blk_put (cs := #[.int .i64 0, .int .i64 0, .slice none 0 0]) ?_ 0 _ rfl; (with_reducible repeat (first | refine blk_drewN ?_ _ | refine blk_drew ?_ | refine blk_alloc ?_ _)); exact BK398.out) hb); have n2_ := Aside0.mk (below_step (bB) hb); clear BK393; clear BK398; clear HB; have BK393 := n0_; have BK398 := n1_; have HB := n2_; clear n0_ n1_ n2_; (try clear hb); (try clear hb2); (try clear hk); (try clear hi)))
              go_ret
              exact ⟨by first | rfl | (simp [errW_none, errW_some] <;> rfl) | (simp [*, errW_none, errW_some] <;> rfl), bB⟩
            ·rw [if_neg c28] at H
             exact absurd H (by simp)
           ·rw [if_neg c27] at H
            exact absurd H (by simp)
          ·rw [if_neg c26] at H
           have c26b0 : decide (x30_3 < (l0_2.length : Int)) = false := decide_eq_false c26
           clear c26
           obtain rfl := Option.some.inj H
           go_wp2
           go_ret
           exact ⟨by first | rfl | (simp [errW_none, errW_some] <;> rfl) | (simp [*, errW_none, errW_some] <;> rfl), bB⟩
       ·replace c24 := Bool.eq_false_iff.mpr c24
        subst c24
        have H1 : (if a0_0 = 8 then (if 0 < (l0_2.length : Int) then ((simplify_Nullable.f kj21 ((rd_T24 l0_2 0).f0) ((rd_T24 l0_2 0).f1) ((rd_T24 l0_2 0).f2)).bind fun t401 => (some (!t401))) else (none)) else (some false)) = some r := by rw [if_neg (show ¬ (false = true) by decide)] at H; exact H
        clear H
        have H := H1
        clear H1
        by_cases c39 : a0_0 = 8
        ·rw [if_pos c39] at H
         have c39b0 : (a0_0 == 8) = true := beq_iff_eq.mpr c39
         have c39b1 : (a0_0 != 8) = false := bne_eq_false_iff_eq.mpr c39
         clear c39
         by_cases c40 : 0 < (l0_2.length : Int)
         ·rw [if_pos c40] at H
          have c40b0 : decide (0 < (l0_2.length : Int)) = true := decide_eq_true c40
          have c40b1 : decide (0 < l0_2.length) = true := decide_eq_true (by omega)
          clear c40
          replace H := Option.bind_eq_some_iff.mp H
          obtain ⟨t401, A410, H⟩ := H
          replace H : (some (!t401)) = some r := H
          have A41 := Aside0.mk A410
          clear A410
          obtain rfl := Option.some.inj H
          have hcz42_0 : wc.cell? ⟨gb393, 0, none⟩ = some (.int .i64 a0_0) := (blk_cell BK393.out 0).trans rfl
          have hcz42_1 : wc.cell? ⟨gb393, 1, none⟩ = some (.int .i64 a0_1) := (blk_cell BK393.out 1).trans rfl
          have hcz42_2 : wc.cell? ⟨gb393, 2, none⟩ = some (.slice A0_2 l0_2.length c0_2) := (blk_cell BK393.out 2).trans rfl
          have hfz42_0 := blk_frozen BK393.out 0
          have hfz42_1 := blk_frozen BK393.out 1
          have hfz42_2 := blk_frozen BK393.out 2
          have p400 : 0 ≤ (0 : Int) := (by omega)
          have q400 : 0 < (l0_2.length : Int) := of_decide_eq_true (by first | (with_reducible assumption) | assumption)
          obtain ⟨ad400, A400_2, c400_2, e400, hx400_0, hx400_1, hx400_2, hl400_2, hi400_2⟩ := at_T24 HR0_2.out 0 p400 q400
          cases e400
          have qi400 : (0 < l0_2.length) = True := eq_true (by omega)
          (try rw [show ((0 : Int)).toNat = 0 from rfl] at hx400_0)
          (try rw [show 0 * 3 = 0 from rfl] at hx400_0)
          (try rw [Addr.add_zero'] at hx400_0)
          (try rw [show ((0 : Int)).toNat = 0 from rfl] at hx400_1)
          (try rw [show 0 * 3 = 0 from rfl] at hx400_1)
          (try rw [Addr.add_zero'] at hx400_1)
          (try rw [show ((0 : Int)).toNat = 0 from rfl] at hx400_2)
          (try rw [show 0 * 3 = 0 from rfl] at hx400_2)
          (try rw [Addr.add_zero'] at hx400_2)
          replace hx400_0 := (HB.out.cell (World.block_lt_of_cell? w _ hx400_0)).trans hx400_0
          replace hx400_1 := (HB.out.cell (World.block_lt_of_cell? w _ hx400_1)).trans hx400_1
          replace hx400_2 := (HB.out.cell (World.block_lt_of_cell? w _ hx400_2)).trans hx400_2
          have HR400_2 := Aside0.mk hi400_2
          have HC400_2 := Aside0.mk hl400_2
          clear hi400_2 hl400_2
          replace p400 := eq_true p400
          replace q400 := eq_true q400
          go_wp2_with (first | ((with_reducible refine gate_callee (f := 57) rfl ?_); refine goesL_ (some 44) rfl rfl Try.func57 (by kernel_rfl) rfl #[.agg #[.int .i64 ((rd_T24 l0_2 0).f0), .int .i64 ((rd_T24 l0_2 0).f1), .slice A400_2 ((rd_T24 l0_2 0).f2).length c400_2]] rfl (by (try simp only [List.map_toArray, List.map_cons, List.map_nil]); first | done | rfl | (simp only [List.length_drop, List.length_take]; rfl) | (simp only [Int.ofNat_lt, Int.ofNat_le]; rfl)) ?_; (with_reducible refine (ih kj21 (by have := HJ1.out; have := HJ21.out; omega) ((rd_T24 l0_2 0).f0) ((rd_T24 l0_2 0).f1) _ _ ((rd_T24 l0_2 0).f2) t401 _ ?side1 ?side2 A41.out).mono ?_); (case side1 => repeat (first | exact (Kd.C_below HR400_2.out HB.out) | (with_reducible refine Kd.C_alloc ?_ _) | (with_reducible refine Kd.C_drewN ?_ _) | (with_reducible refine Kd.C_drew ?_))); (case side2 => exact HC400_2.out); rintro e w43 ⟨rfl, hb⟩; refine ⟨_, rfl, ?_⟩; have n0_ := Aside0.mk (blk_below (g := gb393) (o := .cells #[.int .i64 a0_0, .int .i64 a0_1, .slice (some ad400) l0_2.length c0_2] 24 (0, 0)) (bK) hb); have n1_ := Aside0.mk (below_step (bB) hb); clear BK393; clear HB; have BK393 := n0_; have HB := n1_; clear n0_ n1_; (try clear hb); (try clear hb2); (try clear hk); (try clear hi)))
          go_ret
          exact ⟨by first | rfl | (simp [errW_none, errW_some] <;> rfl) | (simp [*, errW_none, errW_some] <;> rfl), bB⟩
         ·rw [if_neg c40] at H
          exact absurd H (by simp)
        ·rw [if_neg c39] at H
         have c39b0 : (a0_0 == 8) = false := beq_eq_false_iff_ne.mpr c39
         have c39b1 : (a0_0 != 8) = true := bne_iff_ne.mpr c39
         obtain rfl := Option.some.inj H
         go_wp2
         go_ret
         exact ⟨by first | rfl | (simp [errW_none, errW_some] <;> rfl) | (simp [*, errW_none, errW_some] <;> rfl), bB⟩
end Go.Proofs.Ytjofkebiacaciaa.PAll
end
section
namespace Go.Proofs.Ytjofkebiacaciaa.PAll
open Go.RowKit Go.Proofs.YtjofkebiacaciaaW.PrintWords Go.Proofs.YtjofkebiacaciaaW.PrintLast Go.Proofs.YtjofkebiacaciaaW.PrintMore
attribute [local go_sem] max2_int min2_int max_two min_two max_three min_three max_four min_four
set_option linter.unusedVariables false
set_option linter.unusedSimpArgs false
def expr_Nullable.f (k : Nat) (a0_0 : Int) (a0_1 : Int) (l0_2 : List (S24)) : Option (Bool) := (expr_valid.f k a0_0 a0_1 l0_2).bind fun t403 => (if t403 = true then ((simplify_Nullable.f k a0_0 a0_1 l0_2).bind fun t404 => (some t404)) else (some false))
theorem expr_Nullable.mono : ∀ a0 a1 a2 k, LeO (expr_Nullable.f k a0 a1 a2) (expr_Nullable.f (k + 1) a0 a1 a2) := by
 intro a0 a1 a2 k
 unfold expr_Nullable.f
 repeat' first
   | (with_reducible exact expr_valid.mono _ _ _ _)
   | (with_reducible exact simplify_Nullable.mono _ _ _ _)
   | (with_reducible exact LeO.refl _)
   | (with_reducible exact LeO.none _)
   | (with_reducible refine LeO.ite ?_ ?_)
   | (with_reducible refine LeO.bind ?_ (fun _ => ?_))
   | exact expr_valid.mono _ _ _ _
   | exact simplify_Nullable.mono _ _ _ _
   | exact LeO.none _
   | refine LeO.ite ?_ ?_
   | refine LeO.bind ?_ (fun _ => ?_)
set_option maxHeartbeats 8000000 in
set_option maxRecDepth 100000 in
theorem expr_Nullable.calls (k : Nat) (a0_0 : Int) (a0_1 : Int) (A0_2 : Option Addr) (c0_2 : Nat) (l0_2 : List (S24)) (r : Bool) (w : World) (hr0_2 : Kd.C k24 w A0_2 l0_2.length l0_2) (hc0_2 : l0_2.length ≤ c0_2) (h : expr_Nullable.f k a0_0 a0_1 l0_2 = some r) :
  Calls Try.prog 29 #[.agg #[.int .i64 a0_0, .int .i64 a0_1, .slice A0_2 l0_2.length c0_2]] w fun e w' => e = .returned (.bool r) ∧ Below w.heap.size w w' := by
 have hu24 := Try.underlying24
 have HR0_2 := Aside0.mk hr0_2
 have HC0_2 := Aside0.mk hc0_2
 clear hr0_2 hc0_2
 have HB := Aside0.mk (Below.refl w.heap.size w)
 have H : ((expr_valid.f k a0_0 a0_1 l0_2).bind fun t403 => (if t403 = true then ((simplify_Nullable.f k a0_0 a0_1 l0_2).bind fun t404 => (some t404)) else (some false))) = some r := h
 clear h
 replace H := Option.bind_eq_some_iff.mp H
 obtain ⟨t403, A20, H⟩ := H
 replace H : (if t403 = true then ((simplify_Nullable.f k a0_0 a0_1 l0_2).bind fun t404 => (some t404)) else (some false)) = some r := H
 have A2 := Aside0.mk A20
 clear A20
 by_cases c3 : t403 = true
 ·subst c3
  have H1 : ((simplify_Nullable.f k a0_0 a0_1 l0_2).bind fun t404 => (some t404)) = some r := by rw [if_pos rfl] at H; exact H
  clear H
  have H := H1
  clear H1
  replace H := Option.bind_eq_some_iff.mp H
  obtain ⟨t404, A40, H⟩ := H
  replace H : (some t404) = some r := H
  have A4 := Aside0.mk A40
  clear A40
  obtain rfl := Option.some.inj H
  go_enter Try.func29, Try.ntmps29
  go_wp2_with (first | ((with_reducible refine gate_dst (N := 1) rfl ?_); refine box_event ?hg (N := 1) ?hd (cs := #[.int .i64 a0_0, .int .i64 a0_1, .slice A0_2 l0_2.length c0_2]) (t := 24) ?hr ?_; (case hd => rfl); (case hg => rfl); (case hr => first | (go_simp; done) | (go_simp; rfl)); intro gb402 hg w5 hbox hb; have n0_ := Aside0.mk (below_step (bB) hb); have n1_ := Aside0.mk (hbox); have n2_ := Aside0.mk ((by rw [hg]; exact (below_size (bB)) : w.heap.size ≤ gb402)); have n3_ := Aside0.mk ((by rw [hg]; exact (below_size (bB)) : w.heap.size ≤ gb402)); clear HB; have HB := n0_; have BK402 := n1_; have GW402 := n2_; have GE402 := n3_; clear n0_ n1_ n2_ n3_; clear hb hbox hg; have hcz6_0 : w5.cell? ⟨gb402, 0, none⟩ = some (.int .i64 a0_0) := (blk_cell BK402.out 0).trans rfl; have hcz6_1 : w5.cell? ⟨gb402, 1, none⟩ = some (.int .i64 a0_1) := (blk_cell BK402.out 1).trans rfl; have hcz6_2 : w5.cell? ⟨gb402, 2, none⟩ = some (.slice A0_2 l0_2.length c0_2) := (blk_cell BK402.out 2).trans rfl; have hfz6_0 := blk_frozen BK402.out 0; have hfz6_1 := blk_frozen BK402.out 1; have hfz6_2 := blk_frozen BK402.out 2) | ((with_reducible refine gate_callee (f := 46) rfl ?_); refine goesL_ (some 4) rfl rfl Try.func46 (by kernel_rfl) rfl #[.agg #[.int .i64 a0_0, .int .i64 a0_1, .slice A0_2 l0_2.length c0_2]] rfl (by (try simp only [List.map_toArray, List.map_cons, List.map_nil]); first | done | rfl | (simp only [List.length_drop, List.length_take]; rfl) | (simp only [Int.ofNat_lt, Int.ofNat_le]; rfl)) ?_; (with_reducible refine (expr_valid.calls k a0_0 a0_1 _ _ l0_2 true _ ?side1 ?side2 A2.out).mono ?_); (case side1 => repeat (first | exact (Kd.C_below HR0_2.out HB.out) | (with_reducible refine Kd.C_alloc ?_ _) | (with_reducible refine Kd.C_drewN ?_ _) | (with_reducible refine Kd.C_drew ?_))); (case side2 => exact HC0_2.out); rintro e w7 ⟨rfl, hb⟩; refine ⟨_, rfl, ?_⟩; have n0_ := Aside0.mk (blk_below (g := gb402) (o := .cells #[.int .i64 a0_0, .int .i64 a0_1, .slice A0_2 l0_2.length c0_2] 24 (0, 0)) (bK) hb); have n1_ := Aside0.mk (below_step (bB) hb); clear BK402; clear HB; have BK402 := n0_; have HB := n1_; clear n0_ n1_; (try clear hb); (try clear hb2); (try clear hk); (try clear hi); have hcz8_0 : w7.cell? ⟨gb402, 0, none⟩ = some (.int .i64 a0_0) := (blk_cell BK402.out 0).trans rfl; have hcz8_1 : w7.cell? ⟨gb402, 1, none⟩ = some (.int .i64 a0_1) := (blk_cell BK402.out 1).trans rfl; have hcz8_2 : w7.cell? ⟨gb402, 2, none⟩ = some (.slice A0_2 l0_2.length c0_2) := (blk_cell BK402.out 2).trans rfl; have hfz8_0 := blk_frozen BK402.out 0; have hfz8_1 := blk_frozen BK402.out 1; have hfz8_2 := blk_frozen BK402.out 2) | (go_at_call 57; (with_reducible refine (simplify_Nullable.calls k a0_0 a0_1 _ _ l0_2 t404 _ ?side1 ?side2 A4.out).mono ?_); (case side1 => repeat (first | exact (Kd.C_below HR0_2.out HB.out) | (with_reducible refine Kd.C_alloc ?_ _) | (with_reducible refine Kd.C_drewN ?_ _) | (with_reducible refine Kd.C_drew ?_))); (case side2 => exact HC0_2.out); rintro e w9 ⟨rfl, hb⟩; have n0_ := Aside0.mk (blk_below (g := gb402) (o := .cells #[.int .i64 a0_0, .int .i64 a0_1, .slice A0_2 l0_2.length c0_2] 24 (0, 0)) (bK) hb); have n1_ := Aside0.mk (below_step (bB) hb); clear BK402; clear HB; have BK402 := n0_; have HB := n1_; clear n0_ n1_; (try clear hb); (try clear hb2); (try clear hk); (try clear hi)))
  go_ret
  exact ⟨by first | rfl | (simp [errW_none, errW_some] <;> rfl) | (simp [*, errW_none, errW_some] <;> rfl), bB⟩
 ·replace c3 := Bool.eq_false_iff.mpr c3
  subst c3
  have H1 : (some false) = some r := by rw [if_neg (show ¬ (false = true) by decide)] at H; exact H
  clear H
  have H := H1
  clear H1
  obtain rfl := Option.some.inj H
  go_enter Try.func29, Try.ntmps29
  go_wp2_with (first | ((with_reducible refine gate_dst (N := 1) rfl ?_); refine box_event ?hg (N := 1) ?hd (cs := #[.int .i64 a0_0, .int .i64 a0_1, .slice A0_2 l0_2.length c0_2]) (t := 24) ?hr ?_; (case hd => rfl); (case hg => rfl); (case hr => first | (go_simp; done) | (go_simp; rfl)); intro gb402 hg w10 hbox hb; have n0_ := Aside0.mk (below_step (bB) hb); have n1_ := Aside0.mk (hbox); have n2_ := Aside0.mk ((by rw [hg]; exact (below_size (bB)) : w.heap.size ≤ gb402)); have n3_ := Aside0.mk ((by rw [hg]; exact (below_size (bB)) : w.heap.size ≤ gb402)); clear HB; have HB := n0_; have BK402 := n1_; have GW402 := n2_; have GE402 := n3_; clear n0_ n1_ n2_ n3_; clear hb hbox hg; have hcz11_0 : w10.cell? ⟨gb402, 0, none⟩ = some (.int .i64 a0_0) := (blk_cell BK402.out 0).trans rfl; have hcz11_1 : w10.cell? ⟨gb402, 1, none⟩ = some (.int .i64 a0_1) := (blk_cell BK402.out 1).trans rfl; have hcz11_2 : w10.cell? ⟨gb402, 2, none⟩ = some (.slice A0_2 l0_2.length c0_2) := (blk_cell BK402.out 2).trans rfl; have hfz11_0 := blk_frozen BK402.out 0; have hfz11_1 := blk_frozen BK402.out 1; have hfz11_2 := blk_frozen BK402.out 2) | ((with_reducible refine gate_callee (f := 46) rfl ?_); refine goesL_ (some 4) rfl rfl Try.func46 (by kernel_rfl) rfl #[.agg #[.int .i64 a0_0, .int .i64 a0_1, .slice A0_2 l0_2.length c0_2]] rfl (by (try simp only [List.map_toArray, List.map_cons, List.map_nil]); first | done | rfl | (simp only [List.length_drop, List.length_take]; rfl) | (simp only [Int.ofNat_lt, Int.ofNat_le]; rfl)) ?_; (with_reducible refine (expr_valid.calls k a0_0 a0_1 _ _ l0_2 false _ ?side1 ?side2 A2.out).mono ?_); (case side1 => repeat (first | exact (Kd.C_below HR0_2.out HB.out) | (with_reducible refine Kd.C_alloc ?_ _) | (with_reducible refine Kd.C_drewN ?_ _) | (with_reducible refine Kd.C_drew ?_))); (case side2 => exact HC0_2.out); rintro e w12 ⟨rfl, hb⟩; refine ⟨_, rfl, ?_⟩; have n0_ := Aside0.mk (blk_below (g := gb402) (o := .cells #[.int .i64 a0_0, .int .i64 a0_1, .slice A0_2 l0_2.length c0_2] 24 (0, 0)) (bK) hb); have n1_ := Aside0.mk (below_step (bB) hb); clear BK402; clear HB; have BK402 := n0_; have HB := n1_; clear n0_ n1_; (try clear hb); (try clear hb2); (try clear hk); (try clear hi)))
  go_ret
  exact ⟨by first | rfl | (simp [errW_none, errW_some] <;> rfl) | (simp [*, errW_none, errW_some] <;> rfl), bB⟩
end Go.Proofs.Ytjofkebiacaciaa.PAll
end
