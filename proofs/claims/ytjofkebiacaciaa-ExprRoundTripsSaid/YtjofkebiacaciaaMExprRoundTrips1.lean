/- The functions that the laws of this seat reach, a proof for each that the Go code comes to them, and the plain laws; merged. Conditions: none beside those of the given statements. -/
import Derived.Test.YtjofkebiacaciaaMc14
import Derived.Test.YtjofkebiacaciaaMc16
section
namespace Go.Proofs.Ytjofkebiacaciaa.PAll
open Go.RowKit Go.Proofs.YtjofkebiacaciaaW.PrintWords Go.Proofs.YtjofkebiacaciaaW.PrintLast Go.Proofs.YtjofkebiacaciaaW.PrintMore
attribute [local go_sem] max2_int min2_int max_two min_two max_three min_three max_four min_four
set_option linter.unusedVariables false
set_option linter.unusedSimpArgs false
def semigroupref01_MayLetters.f (a0 : Int) : Option (Bool) := if a0 ≥ 1 then (some (decide (a0 ≤ 6))) else (some false)
set_option maxHeartbeats 8000000 in
set_option maxRecDepth 100000 in
theorem semigroupref01_MayLetters.calls (a0 : Int) (r : Bool) (w : World) (h : semigroupref01_MayLetters.f a0 = some r) :
  Calls Try.prog 43 #[.int .i64 a0] w fun e w' => e = .returned (.bool r) ∧ Drawn0 w w' := by
 have H : (if a0 ≥ 1 then (some (decide (a0 ≤ 6))) else (some false)) = some r := h
 clear h
 by_cases c2 : a0 ≥ 1
 ·rw [if_pos c2] at H
  have c2b0 : decide (1 ≤ a0) = true := decide_eq_true c2
  clear c2
  obtain rfl := Option.some.inj H
  go_enter Try.func43, Try.ntmps43
  go_wp2
  go_ret
  exact ⟨by first | rfl | (simp; done) | (simp [*]; done), by repeat (first | exact Drawn0.refl _ | apply Drawn0.step)⟩
 ·rw [if_neg c2] at H
  have c2b0 : decide (1 ≤ a0) = false := decide_eq_false c2
  clear c2
  obtain rfl := Option.some.inj H
  go_enter Try.func43, Try.ntmps43
  go_wp2
  go_ret
  exact ⟨by first | rfl | (simp; done) | (simp [*]; done), by repeat (first | exact Drawn0.refl _ | apply Drawn0.step)⟩
end Go.Proofs.Ytjofkebiacaciaa.PAll
end
section
namespace Go.Proofs.Ytjofkebiacaciaa.PAll
open Go.RowKit Go.Proofs.YtjofkebiacaciaaW.PrintWords Go.Proofs.YtjofkebiacaciaaW.PrintLast Go.Proofs.YtjofkebiacaciaaW.PrintMore
attribute [local go_sem] max2_int min2_int max_two min_two max_three min_three max_four min_four
set_option linter.unusedVariables false
set_option linter.unusedSimpArgs false
mutual
def semigroupref04_shaped.j0 : Nat → Int → Int → Bool → Int → Int → List (S24) → Option (Bool)
 | 0, _, _, _, _, _, _ => none
 | k + 1, x1, x5, x6, x116000, x116001, x116002 => if x116000 = 1 then (semigroupref04_shaped.j1 k x1 x5 x6 x116000 (x116000 == 1) x116000 x116001 x116002) else (if x116000 = 2 then (semigroupref04_shaped.j1 k x1 x5 x6 x116000 (x116000 == 2) x116000 x116001 x116002) else (semigroupref04_shaped.j1 k x1 x5 x6 x116000 (x116000 == 3) x116000 x116001 x116002))
def semigroupref04_shaped.j2 : Nat → Int → Int → Bool → Int → Int → List (S24) → Option (Bool)
 | 0, _, _, _, _, _, _ => none
 | k + 1, x1, x5, x6, x116000, x116001, x116002 => if x116000 = 3 then (if x6 = true then (if x116001 ≥ 0 then (semigroupref04_shaped.j3 k x1 x5 (decide (x116001 < x1)) x116000 x116001 x116002) else (semigroupref04_shaped.j3 k x1 x5 false x116000 x116001 x116002)) else (semigroupref04_shaped.j3 k x1 x5 false x116000 x116001 x116002)) else (if x6 = true then (semigroupref04_shaped.j3 k x1 x5 (x116001 == 0) x116000 x116001 x116002) else (semigroupref04_shaped.j3 k x1 x5 false x116000 x116001 x116002))
def semigroupref04_shaped.j3 : Nat → Int → Int → Bool → Int → Int → List (S24) → Option (Bool)
 | 0, _, _, _, _, _, _ => none
 | k + 1, x1, x5, x6, x116000, x116001, x116002 => semigroupref04_shaped.l0 k x1 x5 x6 0 x116000 x116001 x116002
def semigroupref04_shaped.l0 : Nat → Int → Int → Bool → Int → Int → Int → List (S24) → Option (Bool)
 | 0, _, _, _, _, _, _, _ => none
 | k + 1, x1, x5, x6, x7, x116000, x116001, x116002 => if x7 < x5 then (if x6 = true then (if 0 ≤ x7 then (if x7 < (x116002.length : Int) then ((semigroupref04_shaped.f k ((rd_T24 x116002 x7).f0) ((rd_T24 x116002 x7).f1) ((rd_T24 x116002 x7).f2) x1).bind fun t117 => (semigroupref04_shaped.l0 k x1 x5 t117 (wrap64 (x7 + 1)) x116000 x116001 x116002)) else (none)) else (none)) else (some x6)) else (some x6)
def semigroupref04_shaped.j1 : Nat → Int → Int → Bool → Int → Bool → Int → Int → List (S24) → Option (Bool)
 | 0, _, _, _, _, _, _, _, _ => none
 | k + 1, x1, x5, x6, x20, x26, x116000, x116001, x116002 => if x26 = true then (semigroupref04_shaped.j2 k x1 x5 (x5 == 0) x116000 x116001 x116002) else (if x20 = 7 then (semigroupref04_shaped.j2 k x1 x5 (x5 == 1) x116000 x116001 x116002) else (if x20 = 8 then (semigroupref04_shaped.j2 k x1 x5 (x5 == 1) x116000 x116001 x116002) else (if x6 = true then (semigroupref04_shaped.j2 k x1 x5 (decide (x5 ≥ 2)) x116000 x116001 x116002) else (semigroupref04_shaped.j2 k x1 x5 false x116000 x116001 x116002))))
def semigroupref04_shaped.f : Nat → Int → Int → List (S24) → Int → Option (Bool)
 | 0, _, _, _, _ => none
 | k + 1, a0_0, a0_1, l0_2, a1 => if a0_0 ≥ 1 then (semigroupref04_shaped.j0 k a1 (l0_2.length : Int) (decide (a0_0 ≤ 8)) a0_0 a0_1 l0_2) else (semigroupref04_shaped.j0 k a1 (l0_2.length : Int) false a0_0 a0_1 l0_2)
end
theorem semigroupref04_shaped.mono_l : ∀ k, (∀ y0 y1 y2 y3, LeO (semigroupref04_shaped.f k y0 y1 y2 y3) (semigroupref04_shaped.f (k + 1) y0 y1 y2 y3)) ∧ (∀ y0 y1 y2 y3 y4 y5, LeO (semigroupref04_shaped.j0 k y0 y1 y2 y3 y4 y5) (semigroupref04_shaped.j0 (k + 1) y0 y1 y2 y3 y4 y5)) ∧ (∀ y0 y1 y2 y3 y4 y5, LeO (semigroupref04_shaped.j2 k y0 y1 y2 y3 y4 y5) (semigroupref04_shaped.j2 (k + 1) y0 y1 y2 y3 y4 y5)) ∧ (∀ y0 y1 y2 y3 y4 y5, LeO (semigroupref04_shaped.j3 k y0 y1 y2 y3 y4 y5) (semigroupref04_shaped.j3 (k + 1) y0 y1 y2 y3 y4 y5)) ∧ (∀ y0 y1 y2 y3 y4 y5 y6, LeO (semigroupref04_shaped.l0 k y0 y1 y2 y3 y4 y5 y6) (semigroupref04_shaped.l0 (k + 1) y0 y1 y2 y3 y4 y5 y6)) ∧ (∀ y0 y1 y2 y3 y4 y5 y6 y7, LeO (semigroupref04_shaped.j1 k y0 y1 y2 y3 y4 y5 y6 y7) (semigroupref04_shaped.j1 (k + 1) y0 y1 y2 y3 y4 y5 y6 y7))
 | 0 => ⟨fun _ _ _ _ r h => by simp [semigroupref04_shaped.f] at h, fun _ _ _ _ _ _ r h => by simp [semigroupref04_shaped.j0] at h, fun _ _ _ _ _ _ r h => by simp [semigroupref04_shaped.j2] at h, fun _ _ _ _ _ _ r h => by simp [semigroupref04_shaped.j3] at h, fun _ _ _ _ _ _ _ r h => by simp [semigroupref04_shaped.l0] at h, fun _ _ _ _ _ _ _ _ r h => by simp [semigroupref04_shaped.j1] at h⟩
 | k + 1 => by
  obtain ⟨ih0, ih1, ih2, ih3, ih4, ih5⟩ := semigroupref04_shaped.mono_l k
  refine ⟨?_, ?_, ?_, ?_, ?_, ?_⟩
  ·intro y0 y1 y2 y3
   unfold semigroupref04_shaped.f
   repeat' first
   | (with_reducible exact ih0 _ _ _ _)
   | (with_reducible exact ih1 _ _ _ _ _ _)
   | (with_reducible exact ih2 _ _ _ _ _ _)
   | (with_reducible exact ih3 _ _ _ _ _ _)
   | (with_reducible exact ih4 _ _ _ _ _ _ _)
   | (with_reducible exact ih5 _ _ _ _ _ _ _ _)
   | (with_reducible exact LeO.refl _)
   | (with_reducible exact LeO.none _)
   | (with_reducible refine LeO.ite ?_ ?_)
   | (with_reducible refine LeO.bind ?_ (fun _ => ?_))
   | exact ih0 _ _ _ _
   | exact ih1 _ _ _ _ _ _
   | exact ih2 _ _ _ _ _ _
   | exact ih3 _ _ _ _ _ _
   | exact ih4 _ _ _ _ _ _ _
   | exact ih5 _ _ _ _ _ _ _ _
   | exact LeO.none _
   | refine LeO.ite ?_ ?_
   | refine LeO.bind ?_ (fun _ => ?_)
  ·intro y0 y1 y2 y3 y4 y5
   unfold semigroupref04_shaped.j0
   repeat' first
   | (with_reducible exact ih0 _ _ _ _)
   | (with_reducible exact ih1 _ _ _ _ _ _)
   | (with_reducible exact ih2 _ _ _ _ _ _)
   | (with_reducible exact ih3 _ _ _ _ _ _)
   | (with_reducible exact ih4 _ _ _ _ _ _ _)
   | (with_reducible exact ih5 _ _ _ _ _ _ _ _)
   | (with_reducible exact LeO.refl _)
   | (with_reducible exact LeO.none _)
   | (with_reducible refine LeO.ite ?_ ?_)
   | (with_reducible refine LeO.bind ?_ (fun _ => ?_))
   | exact ih0 _ _ _ _
   | exact ih1 _ _ _ _ _ _
   | exact ih2 _ _ _ _ _ _
   | exact ih3 _ _ _ _ _ _
   | exact ih4 _ _ _ _ _ _ _
   | exact ih5 _ _ _ _ _ _ _ _
   | exact LeO.none _
   | refine LeO.ite ?_ ?_
   | refine LeO.bind ?_ (fun _ => ?_)
  ·intro y0 y1 y2 y3 y4 y5
   unfold semigroupref04_shaped.j2
   repeat' first
   | (with_reducible exact ih0 _ _ _ _)
   | (with_reducible exact ih1 _ _ _ _ _ _)
   | (with_reducible exact ih2 _ _ _ _ _ _)
   | (with_reducible exact ih3 _ _ _ _ _ _)
   | (with_reducible exact ih4 _ _ _ _ _ _ _)
   | (with_reducible exact ih5 _ _ _ _ _ _ _ _)
   | (with_reducible exact LeO.refl _)
   | (with_reducible exact LeO.none _)
   | (with_reducible refine LeO.ite ?_ ?_)
   | (with_reducible refine LeO.bind ?_ (fun _ => ?_))
   | exact ih0 _ _ _ _
   | exact ih1 _ _ _ _ _ _
   | exact ih2 _ _ _ _ _ _
   | exact ih3 _ _ _ _ _ _
   | exact ih4 _ _ _ _ _ _ _
   | exact ih5 _ _ _ _ _ _ _ _
   | exact LeO.none _
   | refine LeO.ite ?_ ?_
   | refine LeO.bind ?_ (fun _ => ?_)
  ·intro y0 y1 y2 y3 y4 y5
   unfold semigroupref04_shaped.j3
   repeat' first
   | (with_reducible exact ih0 _ _ _ _)
   | (with_reducible exact ih1 _ _ _ _ _ _)
   | (with_reducible exact ih2 _ _ _ _ _ _)
   | (with_reducible exact ih3 _ _ _ _ _ _)
   | (with_reducible exact ih4 _ _ _ _ _ _ _)
   | (with_reducible exact ih5 _ _ _ _ _ _ _ _)
   | (with_reducible exact LeO.refl _)
   | (with_reducible exact LeO.none _)
   | (with_reducible refine LeO.ite ?_ ?_)
   | (with_reducible refine LeO.bind ?_ (fun _ => ?_))
   | exact ih0 _ _ _ _
   | exact ih1 _ _ _ _ _ _
   | exact ih2 _ _ _ _ _ _
   | exact ih3 _ _ _ _ _ _
   | exact ih4 _ _ _ _ _ _ _
   | exact ih5 _ _ _ _ _ _ _ _
   | exact LeO.none _
   | refine LeO.ite ?_ ?_
   | refine LeO.bind ?_ (fun _ => ?_)
  ·intro y0 y1 y2 y3 y4 y5 y6
   unfold semigroupref04_shaped.l0
   repeat' first
   | (with_reducible exact ih0 _ _ _ _)
   | (with_reducible exact ih1 _ _ _ _ _ _)
   | (with_reducible exact ih2 _ _ _ _ _ _)
   | (with_reducible exact ih3 _ _ _ _ _ _)
   | (with_reducible exact ih4 _ _ _ _ _ _ _)
   | (with_reducible exact ih5 _ _ _ _ _ _ _ _)
   | (with_reducible exact LeO.refl _)
   | (with_reducible exact LeO.none _)
   | (with_reducible refine LeO.ite ?_ ?_)
   | (with_reducible refine LeO.bind ?_ (fun _ => ?_))
   | exact ih0 _ _ _ _
   | exact ih1 _ _ _ _ _ _
   | exact ih2 _ _ _ _ _ _
   | exact ih3 _ _ _ _ _ _
   | exact ih4 _ _ _ _ _ _ _
   | exact ih5 _ _ _ _ _ _ _ _
   | exact LeO.none _
   | refine LeO.ite ?_ ?_
   | refine LeO.bind ?_ (fun _ => ?_)
  ·intro y0 y1 y2 y3 y4 y5 y6 y7
   unfold semigroupref04_shaped.j1
   repeat' first
   | (with_reducible exact ih0 _ _ _ _)
   | (with_reducible exact ih1 _ _ _ _ _ _)
   | (with_reducible exact ih2 _ _ _ _ _ _)
   | (with_reducible exact ih3 _ _ _ _ _ _)
   | (with_reducible exact ih4 _ _ _ _ _ _ _)
   | (with_reducible exact ih5 _ _ _ _ _ _ _ _)
   | (with_reducible exact LeO.refl _)
   | (with_reducible exact LeO.none _)
   | (with_reducible refine LeO.ite ?_ ?_)
   | (with_reducible refine LeO.bind ?_ (fun _ => ?_))
   | exact ih0 _ _ _ _
   | exact ih1 _ _ _ _ _ _
   | exact ih2 _ _ _ _ _ _
   | exact ih3 _ _ _ _ _ _
   | exact ih4 _ _ _ _ _ _ _
   | exact ih5 _ _ _ _ _ _ _ _
   | exact LeO.none _
   | refine LeO.ite ?_ ?_
   | refine LeO.bind ?_ (fun _ => ?_)
theorem semigroupref04_shaped.mono : ∀ a0 a1 a2 a3 k, LeO (semigroupref04_shaped.f k a0 a1 a2 a3) (semigroupref04_shaped.f (k + 1) a0 a1 a2 a3) := by
 intro a0 a1 a2 a3 k
 obtain ⟨ih0, ih1, ih2, ih3, ih4, ih5⟩ := semigroupref04_shaped.mono_l k
 exact ih0 a0 a1 a2 a3
set_option maxHeartbeats 8000000 in
set_option maxRecDepth 100000 in
theorem semigroupref04_shaped.calls (k : Nat) : ∀ (a0_0 : Int) (a0_1 : Int) (A0_2 : Option Addr) (c0_2 : Nat) (l0_2 : List (S24)) (a1 : Int) (r : Bool) (w : World) (hr0_2 : Kd.C k24 w A0_2 l0_2.length l0_2) (hc0_2 : l0_2.length ≤ c0_2) (h : semigroupref04_shaped.f k a0_0 a0_1 l0_2 a1 = some r),
  Calls Try.prog 45 #[.agg #[.int .i64 a0_0, .int .i64 a0_1, .slice A0_2 l0_2.length c0_2], .int .i64 a1] w fun e w' => e = .returned (.bool r) ∧ Below w.heap.size w w' := by
 induction k using Nat.strongRecOn with
 | _ k ih =>
 intro a0_0 a0_1 A0_2 c0_2 l0_2 a1 r w hr0_2 hc0_2 h
 cases k with
 | zero => exact absurd h (by simp [semigroupref04_shaped.f])
 | succ k =>
 simp only [semigroupref04_shaped.f] at h
 have hu24 := Try.underlying24
 have HR0_2 := Aside0.mk hr0_2
 have HC0_2 := Aside0.mk hc0_2
 clear hr0_2 hc0_2
 have HB := Aside0.mk (Below.refl w.heap.size w)
 have H : (if a0_0 ≥ 1 then (semigroupref04_shaped.j0 k a1 (l0_2.length : Int) (decide (a0_0 ≤ 8)) a0_0 a0_1 l0_2) else (semigroupref04_shaped.j0 k a1 (l0_2.length : Int) false a0_0 a0_1 l0_2)) = some r := h
 clear h
 have HC3 := Aside0.mk H
 clear H
 go_enter Try.func45, Try.ntmps45
 go_upto_region 2 with (first | ((with_reducible refine gate_dst (N := 2) rfl ?_); refine box_event ?hg (N := 2) ?hd (cs := #[.int .i64 a0_0, .int .i64 a0_1, .slice A0_2 l0_2.length c0_2]) (t := 24) ?hr ?_; (case hd => rfl); (case hg => rfl); (case hr => first | (go_simp; done) | (go_simp; rfl)); intro gb115 hg w4 hbox hb; have n0_ := Aside0.mk (below_step (bB) hb); have n1_ := Aside0.mk (hbox); have n2_ := Aside0.mk ((by rw [hg]; exact (below_size (bB)) : w.heap.size ≤ gb115)); have n3_ := Aside0.mk ((by rw [hg]; exact (below_size (bB)) : w.heap.size ≤ gb115)); clear HB; have HB := n0_; have BK115 := n1_; have GW115 := n2_; have GE115 := n3_; clear n0_ n1_ n2_ n3_; clear hb hbox hg; have hcz5_0 : w4.cell? ⟨gb115, 0, none⟩ = some (.int .i64 a0_0) := (blk_cell BK115.out 0).trans rfl; have hcz5_1 : w4.cell? ⟨gb115, 1, none⟩ = some (.int .i64 a0_1) := (blk_cell BK115.out 1).trans rfl; have hcz5_2 : w4.cell? ⟨gb115, 2, none⟩ = some (.slice A0_2 l0_2.length c0_2) := (blk_cell BK115.out 2).trans rfl; have hfz5_0 := blk_frozen BK115.out 0; have hfz5_1 := blk_frozen BK115.out 1; have hfz5_2 := blk_frozen BK115.out 2))
 (try simp only [Act.put, List.setIfInBounds_toArray, List.set_cons_zero, List.set_cons_succ])
 go_cut [6] (fun v6 wc => ∃ (kq : Nat) (x6_2 : Bool), v6 = .bool x6_2 ∧ Aside0 (semigroupref04_shaped.j0 kq a1 (l0_2.length : Int) x6_2 a0_0 a0_1 l0_2 = some r) ∧ Aside0 (kq ≤ k) ∧ Aside0 (wc.heap[gb115]? = some (.cells #[.int .i64 a0_0, .int .i64 a0_1, (.slice A0_2 l0_2.length c0_2)] 24 (0, 0))) ∧ Aside0 (Below w.heap.size w wc))
 case first =>
  have H := HC3.out
  clear HC3
  by_cases c6 : a0_0 ≥ 1
  ·rw [if_pos c6] at H
   have c6b0 : decide (1 ≤ a0_0) = true := decide_eq_true c6
   clear c6
   (first | rw [c6b0] | (simp only [i64_w, i32_w]; rw [c6b0]) | skip)
   have H' := Aside0.mk H
   clear H
   have hcz7_0 : w4.cell? ⟨gb115, 0, none⟩ = some (.int .i64 a0_0) := (blk_cell BK115.out 0).trans rfl
   have hcz7_1 : w4.cell? ⟨gb115, 1, none⟩ = some (.int .i64 a0_1) := (blk_cell BK115.out 1).trans rfl
   have hcz7_2 : w4.cell? ⟨gb115, 2, none⟩ = some (.slice A0_2 l0_2.length c0_2) := (blk_cell BK115.out 2).trans rfl
   have hfz7_0 := blk_frozen BK115.out 0
   have hfz7_1 := blk_frozen BK115.out 1
   have hfz7_2 := blk_frozen BK115.out 2
   go_wp2
   go_meet
   case rel => exact ⟨_, (decide (a0_0 ≤ 8)), (by first | rfl | (simp; done) | (simp [*]; done)), H', ⟨by first | omega | exact Nat.le_refl _⟩, ⟨bK⟩, ⟨bB⟩⟩
  ·rw [if_neg c6] at H
   have c6b0 : decide (1 ≤ a0_0) = false := decide_eq_false c6
   clear c6
   (first | rw [c6b0] | (simp only [i64_w, i32_w]; rw [c6b0]) | skip)
   have H' := Aside0.mk H
   clear H
   have hcz8_0 : w4.cell? ⟨gb115, 0, none⟩ = some (.int .i64 a0_0) := (blk_cell BK115.out 0).trans rfl
   have hcz8_1 : w4.cell? ⟨gb115, 1, none⟩ = some (.int .i64 a0_1) := (blk_cell BK115.out 1).trans rfl
   have hcz8_2 : w4.cell? ⟨gb115, 2, none⟩ = some (.slice A0_2 l0_2.length c0_2) := (blk_cell BK115.out 2).trans rfl
   have hfz8_0 := blk_frozen BK115.out 0
   have hfz8_1 := blk_frozen BK115.out 1
   have hfz8_2 := blk_frozen BK115.out 2
   go_wp2
   go_meet
   case rel => exact ⟨_, (false), (by first | rfl | (simp; done) | (simp [*]; done)), H', ⟨by first | omega | exact Nat.le_refl _⟩, ⟨bK⟩, ⟨bB⟩⟩
 case rest =>
  clear HC3
  try clear p2
  try clear c4
  try clear c6
  try clear c6b0
  try clear hcz5_0
  try clear hcz5_1
  try clear hcz5_2
  try clear hcz7_0
  try clear hcz7_1
  try clear hcz7_2
  try clear hcz8_0
  try clear hcz8_1
  try clear hcz8_2
  try clear hfz5_0
  try clear hfz5_1
  try clear hfz5_2
  try clear hfz7_0
  try clear hfz7_1
  try clear hfz7_2
  try clear hfz8_0
  try clear hfz8_1
  try clear hfz8_2
  obtain ⟨kq, x6_2, rfl, HA, HJ2, BK115, HB⟩ := hcut
  cases kq with
  | zero => exact absurd HA.out (by simp [semigroupref04_shaped.j0])
  | succ kj2 =>
   have H := HA.out
   clear HA
   simp only [semigroupref04_shaped.j0] at H
   have HC9 := Aside0.mk H
   clear H
   have hcz10_0 : wc.cell? ⟨gb115, 0, none⟩ = some (.int .i64 a0_0) := (blk_cell BK115.out 0).trans rfl
   have hcz10_1 : wc.cell? ⟨gb115, 1, none⟩ = some (.int .i64 a0_1) := (blk_cell BK115.out 1).trans rfl
   have hcz10_2 : wc.cell? ⟨gb115, 2, none⟩ = some (.slice A0_2 l0_2.length c0_2) := (blk_cell BK115.out 2).trans rfl
   have hfz10_0 := blk_frozen BK115.out 0
   have hfz10_1 := blk_frozen BK115.out 1
   have hfz10_2 := blk_frozen BK115.out 2
   go_upto_block 0 with (fail)
   go_cut [6] (fun v6 wc => ∃ (kq : Nat) (x6_8 : Bool), v6 = .bool x6_8 ∧ Aside0 (semigroupref04_shaped.j2 kq a1 (l0_2.length : Int) x6_8 a0_0 a0_1 l0_2 = some r) ∧ Aside0 (kq ≤ kj2) ∧ Aside0 (wc.heap[gb115]? = some (.cells #[.int .i64 a0_0, .int .i64 a0_1, (.slice A0_2 l0_2.length c0_2)] 24 (0, 0))) ∧ Aside0 (Below w.heap.size w wc))
   case first =>
    have H := HC9.out
    clear HC9
    have HC11 := Aside0.mk H
    clear H
    go_upto_if 26 with (fail)
    go_cut [26] (fun v26 wc => ∃ (kq : Nat) (x26_10 : Bool), v26 = .bool x26_10 ∧ Aside0 (semigroupref04_shaped.j1 kq a1 (l0_2.length : Int) x6_2 a0_0 x26_10 a0_0 a0_1 l0_2 = some r) ∧ Aside0 (kq ≤ kj2) ∧ Aside0 (wc.heap[gb115]? = some (.cells #[.int .i64 a0_0, .int .i64 a0_1, (.slice A0_2 l0_2.length c0_2)] 24 (0, 0))) ∧ Aside0 (Below w.heap.size w wc))
    case first =>
     have H := HC11.out
     clear HC11
     by_cases c12 : a0_0 = 1
     ·rw [if_pos c12] at H
      have c12b0 : (a0_0 == 1) = true := beq_iff_eq.mpr c12
      have c12b1 : (a0_0 != 1) = false := bne_eq_false_iff_eq.mpr c12
      clear c12
      (first | rw [c12b0] | (simp only [i64_w, i32_w]; rw [c12b0]) | skip)
      have H' := Aside0.mk H
      clear H
      go_wp2
      go_meet
      case rel => exact ⟨_, ((a0_0 == 1)), (by first | rfl | (simp; done) | (simp [*]; done)), H', ⟨by have := HJ2.out; first | omega | exact Nat.le_refl _⟩, ⟨bK⟩, ⟨bB⟩⟩
     ·rw [if_neg c12] at H
      have c12b0 : (a0_0 == 1) = false := beq_eq_false_iff_ne.mpr c12
      have c12b1 : (a0_0 != 1) = true := bne_iff_ne.mpr c12
      (first | rw [c12b0] | (simp only [i64_w, i32_w]; rw [c12b0]) | skip)
      by_cases c13 : a0_0 = 2
      ·rw [if_pos c13] at H
       have c13b0 : (a0_0 == 2) = true := beq_iff_eq.mpr c13
       have c13b1 : (a0_0 != 2) = false := bne_eq_false_iff_eq.mpr c13
       clear c13
       have H' := Aside0.mk H
       clear H
       go_wp2
       go_meet
       case rel => exact ⟨_, ((a0_0 == 2)), (by first | rfl | (simp; done) | (simp [*]; done)), H', ⟨by have := HJ2.out; first | omega | exact Nat.le_refl _⟩, ⟨bK⟩, ⟨bB⟩⟩
      ·rw [if_neg c13] at H
       have c13b0 : (a0_0 == 2) = false := beq_eq_false_iff_ne.mpr c13
       have c13b1 : (a0_0 != 2) = true := bne_iff_ne.mpr c13
       have H' := Aside0.mk H
       clear H
       go_wp2
       go_meet
       case rel => exact ⟨_, ((a0_0 == 3)), (by first | rfl | (simp; done) | (simp [*]; done)), H', ⟨by have := HJ2.out; first | omega | exact Nat.le_refl _⟩, ⟨bK⟩, ⟨bB⟩⟩
    case rest =>
     clear HC11
     try clear c1
     try clear p2
     try clear c4
     try clear c6
     try clear c6b0
     try clear c12
     try clear c12b0
     try clear c12b1
     try clear c13
     try clear c13b0
     try clear c13b1
     try clear hcz10_0
     try clear hcz10_1
     try clear hcz10_2
     try clear hcz5_0
     try clear hcz5_1
     try clear hcz5_2
     try clear hcz7_0
     try clear hcz7_1
     try clear hcz7_2
     try clear hcz8_0
     try clear hcz8_1
     try clear hcz8_2
     try clear hfz10_0
     try clear hfz10_1
     try clear hfz10_2
     try clear hfz5_0
     try clear hfz5_1
     try clear hfz5_2
     try clear hfz7_0
     try clear hfz7_1
     try clear hfz7_2
     try clear hfz8_0
     try clear hfz8_1
     try clear hfz8_2
     try clear p2
     obtain ⟨kq, x26_10, rfl, HA, HJ10, BK115, HB⟩ := hcut
     cases kq with
     | zero => exact absurd HA.out (by simp [semigroupref04_shaped.j1])
     | succ kj10 =>
      have H := HA.out
      clear HA
      simp only [semigroupref04_shaped.j1] at H
      by_cases c14 : x26_10 = true
      ·subst c14
       have H1 : (semigroupref04_shaped.j2 kj10 a1 (l0_2.length : Int) ((l0_2.length : Int) == 0) a0_0 a0_1 l0_2) = some r := by rw [if_pos rfl] at H; exact H
       clear H
       have H := H1
       clear H1
       have H' := Aside0.mk H
       clear H
       go_wp2
       go_meet
       case rel => exact ⟨_, (((l0_2.length : Int) == 0)), (by first | rfl | (simp; done) | (simp [*]; done)), H', ⟨by have := HJ2.out; have := HJ10.out; first | omega | exact Nat.le_refl _⟩, ⟨bK⟩, ⟨bB⟩⟩
      ·replace c14 := Bool.eq_false_iff.mpr c14
       subst c14
       have H1 : (if a0_0 = 7 then (semigroupref04_shaped.j2 kj10 a1 (l0_2.length : Int) ((l0_2.length : Int) == 1) a0_0 a0_1 l0_2) else (if a0_0 = 8 then (semigroupref04_shaped.j2 kj10 a1 (l0_2.length : Int) ((l0_2.length : Int) == 1) a0_0 a0_1 l0_2) else (if x6_2 = true then (semigroupref04_shaped.j2 kj10 a1 (l0_2.length : Int) (decide ((l0_2.length : Int) ≥ 2)) a0_0 a0_1 l0_2) else (semigroupref04_shaped.j2 kj10 a1 (l0_2.length : Int) false a0_0 a0_1 l0_2)))) = some r := by rw [if_neg (show ¬ (false = true) by decide)] at H; exact H
       clear H
       have H := H1
       clear H1
       by_cases c15 : a0_0 = 7
       ·rw [if_pos c15] at H
        have c15b0 : (a0_0 == 7) = true := beq_iff_eq.mpr c15
        have c15b1 : (a0_0 != 7) = false := bne_eq_false_iff_eq.mpr c15
        clear c15
        have H' := Aside0.mk H
        clear H
        go_wp2
        go_meet
        case rel => exact ⟨_, (((l0_2.length : Int) == 1)), (by first | rfl | (simp; done) | (simp [*]; done)), H', ⟨by have := HJ2.out; have := HJ10.out; first | omega | exact Nat.le_refl _⟩, ⟨bK⟩, ⟨bB⟩⟩
       ·rw [if_neg c15] at H
        have c15b0 : (a0_0 == 7) = false := beq_eq_false_iff_ne.mpr c15
        have c15b1 : (a0_0 != 7) = true := bne_iff_ne.mpr c15
        by_cases c16 : a0_0 = 8
        ·rw [if_pos c16] at H
         have c16b0 : (a0_0 == 8) = true := beq_iff_eq.mpr c16
         have c16b1 : (a0_0 != 8) = false := bne_eq_false_iff_eq.mpr c16
         clear c16
         have H' := Aside0.mk H
         clear H
         go_wp2
         go_meet
         case rel => exact ⟨_, (((l0_2.length : Int) == 1)), (by first | rfl | (simp; done) | (simp [*]; done)), H', ⟨by have := HJ2.out; have := HJ10.out; first | omega | exact Nat.le_refl _⟩, ⟨bK⟩, ⟨bB⟩⟩
        ·rw [if_neg c16] at H
         have c16b0 : (a0_0 == 8) = false := beq_eq_false_iff_ne.mpr c16
         have c16b1 : (a0_0 != 8) = true := bne_iff_ne.mpr c16
         by_cases c17 : x6_2 = true
         ·subst c17
          have H1 : (semigroupref04_shaped.j2 kj10 a1 (l0_2.length : Int) (decide ((l0_2.length : Int) ≥ 2)) a0_0 a0_1 l0_2) = some r := by rw [if_pos rfl] at H; exact H
          clear H
          have H := H1
          clear H1
          have H' := Aside0.mk H
          clear H
          go_wp2
          go_meet
          case rel => exact ⟨_, (decide ((l0_2.length : Int) ≥ 2)), (by first | rfl | (simp; done) | (simp [*]; done)), H', ⟨by have := HJ2.out; have := HJ10.out; first | omega | exact Nat.le_refl _⟩, ⟨bK⟩, ⟨bB⟩⟩
         ·replace c17 := Bool.eq_false_iff.mpr c17
          subst c17
          have H1 : (semigroupref04_shaped.j2 kj10 a1 (l0_2.length : Int) false a0_0 a0_1 l0_2) = some r := by rw [if_neg (show ¬ (false = true) by decide)] at H; exact H
          clear H
          have H := H1
          clear H1
          have H' := Aside0.mk H
          clear H
          go_wp2
          go_meet
          case rel => exact ⟨_, (false), (by first | rfl | (simp; done) | (simp [*]; done)), H', ⟨by have := HJ2.out; have := HJ10.out; first | omega | exact Nat.le_refl _⟩, ⟨bK⟩, ⟨bB⟩⟩
   case rest =>
    clear HC9
    try clear c1
    try clear p2
    try clear c4
    try clear c6
    try clear c6b0
    try clear c12
    try clear c12b0
    try clear c12b1
    try clear c13
    try clear c13b0
    try clear c13b1
    try clear c14
    try clear c15
    try clear c15b0
    try clear c15b1
    try clear c16
    try clear c16b0
    try clear c16b1
    try clear c17
    try clear hcz10_0
    try clear hcz10_1
    try clear hcz10_2
    try clear hcz5_0
    try clear hcz5_1
    try clear hcz5_2
    try clear hcz7_0
    try clear hcz7_1
    try clear hcz7_2
    try clear hcz8_0
    try clear hcz8_1
    try clear hcz8_2
    try clear hfz10_0
    try clear hfz10_1
    try clear hfz10_2
    try clear hfz5_0
    try clear hfz5_1
    try clear hfz5_2
    try clear hfz7_0
    try clear hfz7_1
    try clear hfz7_2
    try clear hfz8_0
    try clear hfz8_1
    try clear hfz8_2
    try clear p2
    obtain ⟨kq, x6_8, rfl, HA, HJ8, BK115, HB⟩ := hcut
    cases kq with
    | zero => exact absurd HA.out (by simp [semigroupref04_shaped.j2])
    | succ kj8 =>
     have H := HA.out
     clear HA
     simp only [semigroupref04_shaped.j2] at H
     have HC18 := Aside0.mk H
     clear H
     have hcz19_0 : wc.cell? ⟨gb115, 0, none⟩ = some (.int .i64 a0_0) := (blk_cell BK115.out 0).trans rfl
     have hcz19_1 : wc.cell? ⟨gb115, 1, none⟩ = some (.int .i64 a0_1) := (blk_cell BK115.out 1).trans rfl
     have hcz19_2 : wc.cell? ⟨gb115, 2, none⟩ = some (.slice A0_2 l0_2.length c0_2) := (blk_cell BK115.out 2).trans rfl
     have hfz19_0 := blk_frozen BK115.out 0
     have hfz19_1 := blk_frozen BK115.out 1
     have hfz19_2 := blk_frozen BK115.out 2
     go_upto_if 39 with (fail)
     go_cut [6] (fun v6 wc => ∃ (kq : Nat) (x6_17 : Bool), v6 = .bool x6_17 ∧ Aside0 (semigroupref04_shaped.j3 kq a1 (l0_2.length : Int) x6_17 a0_0 a0_1 l0_2 = some r) ∧ Aside0 (kq ≤ kj8) ∧ Aside0 (wc.heap[gb115]? = some (.cells #[.int .i64 a0_0, .int .i64 a0_1, (.slice A0_2 l0_2.length c0_2)] 24 (0, 0))) ∧ Aside0 (Below w.heap.size w wc))
     case first =>
      have H := HC18.out
      clear HC18
      by_cases c20 : a0_0 = 3
      ·rw [if_pos c20] at H
       have c20b0 : (a0_0 == 3) = true := beq_iff_eq.mpr c20
       have c20b1 : (a0_0 != 3) = false := bne_eq_false_iff_eq.mpr c20
       clear c20
       (first | rw [c20b0] | (simp only [i64_w, i32_w]; rw [c20b0]) | skip)
       by_cases c21 : x6_8 = true
       ·subst c21
        have H1 : (if a0_1 ≥ 0 then (semigroupref04_shaped.j3 kj8 a1 (l0_2.length : Int) (decide (a0_1 < a1)) a0_0 a0_1 l0_2) else (semigroupref04_shaped.j3 kj8 a1 (l0_2.length : Int) false a0_0 a0_1 l0_2)) = some r := by rw [if_pos rfl] at H; exact H
        clear H
        have H := H1
        clear H1
        by_cases c22 : a0_1 ≥ 0
        ·rw [if_pos c22] at H
         have c22b0 : decide (0 ≤ a0_1) = true := decide_eq_true c22
         clear c22
         have H' := Aside0.mk H
         clear H
         have hcz23_0 : wc.cell? ⟨gb115, 0, none⟩ = some (.int .i64 a0_0) := (blk_cell BK115.out 0).trans rfl
         have hcz23_1 : wc.cell? ⟨gb115, 1, none⟩ = some (.int .i64 a0_1) := (blk_cell BK115.out 1).trans rfl
         have hcz23_2 : wc.cell? ⟨gb115, 2, none⟩ = some (.slice A0_2 l0_2.length c0_2) := (blk_cell BK115.out 2).trans rfl
         have hfz23_0 := blk_frozen BK115.out 0
         have hfz23_1 := blk_frozen BK115.out 1
         have hfz23_2 := blk_frozen BK115.out 2
         go_wp2
         go_meet
         case rel => exact ⟨_, (decide (a0_1 < a1)), (by first | rfl | (simp; done) | (simp [*]; done)), H', ⟨by have := HJ2.out; have := HJ8.out; first | omega | exact Nat.le_refl _⟩, ⟨bK⟩, ⟨bB⟩⟩
        ·rw [if_neg c22] at H
         have c22b0 : decide (0 ≤ a0_1) = false := decide_eq_false c22
         clear c22
         have H' := Aside0.mk H
         clear H
         have hcz24_0 : wc.cell? ⟨gb115, 0, none⟩ = some (.int .i64 a0_0) := (blk_cell BK115.out 0).trans rfl
         have hcz24_1 : wc.cell? ⟨gb115, 1, none⟩ = some (.int .i64 a0_1) := (blk_cell BK115.out 1).trans rfl
         have hcz24_2 : wc.cell? ⟨gb115, 2, none⟩ = some (.slice A0_2 l0_2.length c0_2) := (blk_cell BK115.out 2).trans rfl
         have hfz24_0 := blk_frozen BK115.out 0
         have hfz24_1 := blk_frozen BK115.out 1
         have hfz24_2 := blk_frozen BK115.out 2
         go_wp2
         go_meet
         case rel => exact ⟨_, (false), (by first | rfl | (simp; done) | (simp [*]; done)), H', ⟨by have := HJ2.out; have := HJ8.out; first | omega | exact Nat.le_refl _⟩, ⟨bK⟩, ⟨bB⟩⟩
       ·replace c21 := Bool.eq_false_iff.mpr c21
        subst c21
        have H1 : (semigroupref04_shaped.j3 kj8 a1 (l0_2.length : Int) false a0_0 a0_1 l0_2) = some r := by rw [if_neg (show ¬ (false = true) by decide)] at H; exact H
        clear H
        have H := H1
        clear H1
        have H' := Aside0.mk H
        clear H
        go_wp2
        go_meet
        case rel => exact ⟨_, (false), (by first | rfl | (simp; done) | (simp [*]; done)), H', ⟨by have := HJ2.out; have := HJ8.out; first | omega | exact Nat.le_refl _⟩, ⟨bK⟩, ⟨bB⟩⟩
      ·rw [if_neg c20] at H
       have c20b0 : (a0_0 == 3) = false := beq_eq_false_iff_ne.mpr c20
       have c20b1 : (a0_0 != 3) = true := bne_iff_ne.mpr c20
       (first | rw [c20b0] | (simp only [i64_w, i32_w]; rw [c20b0]) | skip)
       by_cases c25 : x6_8 = true
       ·subst c25
        have H1 : (semigroupref04_shaped.j3 kj8 a1 (l0_2.length : Int) (a0_1 == 0) a0_0 a0_1 l0_2) = some r := by rw [if_pos rfl] at H; exact H
        clear H
        have H := H1
        clear H1
        have H' := Aside0.mk H
        clear H
        have hcz26_0 : wc.cell? ⟨gb115, 0, none⟩ = some (.int .i64 a0_0) := (blk_cell BK115.out 0).trans rfl
        have hcz26_1 : wc.cell? ⟨gb115, 1, none⟩ = some (.int .i64 a0_1) := (blk_cell BK115.out 1).trans rfl
        have hcz26_2 : wc.cell? ⟨gb115, 2, none⟩ = some (.slice A0_2 l0_2.length c0_2) := (blk_cell BK115.out 2).trans rfl
        have hfz26_0 := blk_frozen BK115.out 0
        have hfz26_1 := blk_frozen BK115.out 1
        have hfz26_2 := blk_frozen BK115.out 2
        go_wp2
        go_meet
        case rel => exact ⟨_, ((a0_1 == 0)), (by first | rfl | (simp; done) | (simp [*]; done)), H', ⟨by have := HJ2.out; have := HJ8.out; first | omega | exact Nat.le_refl _⟩, ⟨bK⟩, ⟨bB⟩⟩
       ·replace c25 := Bool.eq_false_iff.mpr c25
        subst c25
        have H1 : (semigroupref04_shaped.j3 kj8 a1 (l0_2.length : Int) false a0_0 a0_1 l0_2) = some r := by rw [if_neg (show ¬ (false = true) by decide)] at H; exact H
        clear H
        have H := H1
        clear H1
        have H' := Aside0.mk H
        clear H
        go_wp2
        go_meet
        case rel => exact ⟨_, (false), (by first | rfl | (simp; done) | (simp [*]; done)), H', ⟨by have := HJ2.out; have := HJ8.out; first | omega | exact Nat.le_refl _⟩, ⟨bK⟩, ⟨bB⟩⟩
     case rest =>
      clear HC18
      try clear c1
      try clear c2
      try clear p2
      try clear c4
      try clear c6
      try clear c6b0
      try clear c12
      try clear c12b0
      try clear c12b1
      try clear c13
      try clear c13b0
      try clear c13b1
      try clear c14
      try clear c15
      try clear c15b0
      try clear c15b1
      try clear c16
      try clear c16b0
      try clear c16b1
      try clear c17
      try clear c20
      try clear c20b0
      try clear c20b1
      try clear c21
      try clear c22
      try clear c22b0
      try clear c25
      try clear hcz10_0
      try clear hcz10_1
      try clear hcz10_2
      try clear hcz19_0
      try clear hcz19_1
      try clear hcz19_2
      try clear hcz23_0
      try clear hcz23_1
      try clear hcz23_2
      try clear hcz24_0
      try clear hcz24_1
      try clear hcz24_2
      try clear hcz26_0
      try clear hcz26_1
      try clear hcz26_2
      try clear hcz5_0
      try clear hcz5_1
      try clear hcz5_2
      try clear hcz7_0
      try clear hcz7_1
      try clear hcz7_2
      try clear hcz8_0
      try clear hcz8_1
      try clear hcz8_2
      try clear hfz10_0
      try clear hfz10_1
      try clear hfz10_2
      try clear hfz19_0
      try clear hfz19_1
      try clear hfz19_2
      try clear hfz23_0
      try clear hfz23_1
      try clear hfz23_2
      try clear hfz24_0
      try clear hfz24_1
      try clear hfz24_2
      try clear hfz26_0
      try clear hfz26_1
      try clear hfz26_2
      try clear hfz5_0
      try clear hfz5_1
      try clear hfz5_2
      try clear hfz7_0
      try clear hfz7_1
      try clear hfz7_2
      try clear hfz8_0
      try clear hfz8_1
      try clear hfz8_2
      try clear p2
      obtain ⟨kq, x6_17, rfl, HA, HJ17, BK115, HB⟩ := hcut
      cases kq with
      | zero => exact absurd HA.out (by simp [semigroupref04_shaped.j3])
      | succ kj17 =>
       have H := HA.out
       clear HA
       simp only [semigroupref04_shaped.j3] at H
       have H' := Aside0.mk H
       clear H
       go_wp2
       go_loopg [6, 7] kj17 (fun kq v6 v7 w' => ∃ (x6_4 : Bool) (x7_4 : Int), v6 = .bool x6_4 ∧ v7 = .int .i64 x7_4 ∧ Aside0 (semigroupref04_shaped.l0 kq a1 (l0_2.length : Int) x6_4 x7_4 a0_0 a0_1 l0_2 = some r) ∧ Aside0 (kq ≤ kj17) ∧ Aside0 (w'.heap[gb115]? = some (.cells #[.int .i64 a0_0, .int .i64 a0_1, (.slice A0_2 l0_2.length c0_2)] 24 (0, 0))) ∧ Aside0 (Below w.heap.size w w'))
       case atStart => exact ⟨(x6_17), (0), (by first | rfl | (simp; done) | (simp [*]; done)), (by first | rfl | (simp; done) | (simp [*]; done)), H', ⟨Nat.le_refl _⟩, ⟨bK⟩, ⟨bB⟩⟩
       case round =>
        clear H'
        try clear c1
        try clear c2
        try clear p2
        try clear c4
        try clear c6
        try clear c6b0
        try clear c12
        try clear c12b0
        try clear c12b1
        try clear c13
        try clear c13b0
        try clear c13b1
        try clear c14
        try clear c15
        try clear c15b0
        try clear c15b1
        try clear c16
        try clear c16b0
        try clear c16b1
        try clear c17
        try clear c20
        try clear c20b0
        try clear c20b1
        try clear c21
        try clear c22
        try clear c22b0
        try clear c25
        try clear hcz10_0
        try clear hcz10_1
        try clear hcz10_2
        try clear hcz19_0
        try clear hcz19_1
        try clear hcz19_2
        try clear hcz23_0
        try clear hcz23_1
        try clear hcz23_2
        try clear hcz24_0
        try clear hcz24_1
        try clear hcz24_2
        try clear hcz26_0
        try clear hcz26_1
        try clear hcz26_2
        try clear hcz5_0
        try clear hcz5_1
        try clear hcz5_2
        try clear hcz7_0
        try clear hcz7_1
        try clear hcz7_2
        try clear hcz8_0
        try clear hcz8_1
        try clear hcz8_2
        try clear hfz10_0
        try clear hfz10_1
        try clear hfz10_2
        try clear hfz19_0
        try clear hfz19_1
        try clear hfz19_2
        try clear hfz23_0
        try clear hfz23_1
        try clear hfz23_2
        try clear hfz24_0
        try clear hfz24_1
        try clear hfz24_2
        try clear hfz26_0
        try clear hfz26_1
        try clear hfz26_2
        try clear hfz5_0
        try clear hfz5_1
        try clear hfz5_2
        try clear hfz7_0
        try clear hfz7_1
        try clear hfz7_2
        try clear hfz8_0
        try clear hfz8_1
        try clear hfz8_2
        try clear p2
        obtain ⟨x6_4, x7_4, rfl, rfl, HA, HK4, BK115, HB⟩ := hrel
        cases gk with
        | zero => exact absurd HA.out (by simp [semigroupref04_shaped.l0])
        | succ k4 =>
         have H := HA.out
         clear HA
         simp only [semigroupref04_shaped.l0] at H
         by_cases c27 : x7_4 < (l0_2.length : Int)
         ·rw [if_pos c27] at H
          have c27b0 : decide (x7_4 < (l0_2.length : Int)) = true := decide_eq_true c27
          clear c27
          by_cases c28 : x6_4 = true
          ·subst c28
           have H1 : (if 0 ≤ x7_4 then (if x7_4 < (l0_2.length : Int) then ((semigroupref04_shaped.f k4 ((rd_T24 l0_2 x7_4).f0) ((rd_T24 l0_2 x7_4).f1) ((rd_T24 l0_2 x7_4).f2) a1).bind fun t117 => (semigroupref04_shaped.l0 k4 a1 (l0_2.length : Int) t117 (wrap64 (x7_4 + 1)) a0_0 a0_1 l0_2)) else (none)) else (none)) = some r := by rw [if_pos rfl] at H; exact H
           clear H
           have H := H1
           clear H1
           by_cases c29 : 0 ≤ x7_4
           ·rw [if_pos c29] at H
            have c29b0 : decide (0 ≤ x7_4) = true := decide_eq_true c29
            clear c29
            by_cases c30 : x7_4 < (l0_2.length : Int)
            ·rw [if_pos c30] at H
             have c30b0 : decide (x7_4 < (l0_2.length : Int)) = true := decide_eq_true c30
             clear c30
             replace H := Option.bind_eq_some_iff.mp H
             obtain ⟨t117, A310, H⟩ := H
             replace H : (semigroupref04_shaped.l0 k4 a1 (l0_2.length : Int) t117 (wrap64 (x7_4 + 1)) a0_0 a0_1 l0_2) = some r := H
             have A31 := Aside0.mk A310
             clear A310
             have H' := Aside0.mk H
             clear H
             have hcz32_0 : wr.cell? ⟨gb115, 0, none⟩ = some (.int .i64 a0_0) := (blk_cell BK115.out 0).trans rfl
             have hcz32_1 : wr.cell? ⟨gb115, 1, none⟩ = some (.int .i64 a0_1) := (blk_cell BK115.out 1).trans rfl
             have hcz32_2 : wr.cell? ⟨gb115, 2, none⟩ = some (.slice A0_2 l0_2.length c0_2) := (blk_cell BK115.out 2).trans rfl
             have hfz32_0 := blk_frozen BK115.out 0
             have hfz32_1 := blk_frozen BK115.out 1
             have hfz32_2 := blk_frozen BK115.out 2
             have p116 : 0 ≤ (x7_4 : Int) := of_decide_eq_true (by first | (with_reducible assumption) | assumption)
             have q116 : x7_4 < (l0_2.length : Int) := of_decide_eq_true (by first | (with_reducible assumption) | assumption)
             obtain ⟨ad116, A116_2, c116_2, e116, hx116_0, hx116_1, hx116_2, hl116_2, hi116_2⟩ := at_T24 HR0_2.out x7_4 p116 q116
             cases e116
             replace hx116_0 := (HB.out.cell (World.block_lt_of_cell? w _ hx116_0)).trans hx116_0
             replace hx116_1 := (HB.out.cell (World.block_lt_of_cell? w _ hx116_1)).trans hx116_1
             replace hx116_2 := (HB.out.cell (World.block_lt_of_cell? w _ hx116_2)).trans hx116_2
             have HR116_2 := Aside0.mk hi116_2
             have HC116_2 := Aside0.mk hl116_2
             clear hi116_2 hl116_2
             replace p116 := eq_true p116
             replace q116 := eq_true q116
             go_wp2_with (first | ((with_reducible refine gate_callee (f := 45) rfl ?_); refine goesL_ (some 72) rfl rfl Try.func45 (by kernel_rfl) rfl #[.agg #[.int .i64 ((rd_T24 l0_2 x7_4).f0), .int .i64 ((rd_T24 l0_2 x7_4).f1), .slice A116_2 ((rd_T24 l0_2 x7_4).f2).length c116_2], .int .i64 a1] rfl (by (try simp only [List.map_toArray, List.map_cons, List.map_nil]); first | done | rfl | (simp only [List.length_drop, List.length_take]; rfl) | (simp only [Int.ofNat_lt, Int.ofNat_le]; rfl)) ?_; (with_reducible refine (ih k4 (by have := HJ2.out; have := HJ8.out; have := HJ17.out; have := HK4.out; omega) ((rd_T24 l0_2 x7_4).f0) ((rd_T24 l0_2 x7_4).f1) _ _ ((rd_T24 l0_2 x7_4).f2) a1 t117 _ ?side1 ?side2 A31.out).mono ?_); (case side1 => repeat (first | exact (Kd.C_below HR116_2.out HB.out) | (with_reducible refine Kd.C_alloc ?_ _) | (with_reducible refine Kd.C_drewN ?_ _) | (with_reducible refine Kd.C_drew ?_))); (case side2 => exact HC116_2.out); rintro e w33 ⟨rfl, hb⟩; refine ⟨_, rfl, ?_⟩; have n0_ := Aside0.mk (blk_below (g := gb115) (o := .cells #[.int .i64 a0_0, .int .i64 a0_1, .slice (some ad116) l0_2.length c0_2] 24 (0, 0)) (bK) hb); have n1_ := Aside0.mk (below_step (bB) hb); clear BK115; clear HB; have BK115 := n0_; have HB := n1_; clear n0_ n1_; (try clear hb); (try clear hb2); (try clear hk); (try clear hi)))
             (first | go_roundg k4 | ((simp only [add_plain] at *); go_roundg k4))
             case measure => have := HJ2.out; have := HJ8.out; have := HJ17.out; have := HK4.out; omega
             case rel => exact ⟨(t117), (wrap64 (x7_4 + 1)), (by first | rfl | (simp; done) | (simp [*]; done)), (by first | rfl | (simp; done) | (simp [*]; done)), H', ⟨by have := HJ2.out; have := HJ8.out; have := HJ17.out; have := HK4.out; omega⟩, ⟨bK⟩, ⟨bB⟩⟩
            ·rw [if_neg c30] at H
             exact absurd H (by simp)
           ·rw [if_neg c29] at H
            exact absurd H (by simp)
          ·replace c28 := Bool.eq_false_iff.mpr c28
           subst c28
           have H1 : (some false) = some r := by rw [if_neg (show ¬ (false = true) by decide)] at H; exact H
           clear H
           have H := H1
           clear H1
           obtain rfl := Option.some.inj H
           go_wp2
           go_ret
           exact ⟨by first | rfl | (simp [errW_none, errW_some] <;> rfl) | (simp [*, errW_none, errW_some] <;> rfl), bB⟩
         ·rw [if_neg c27] at H
          have c27b0 : decide (x7_4 < (l0_2.length : Int)) = false := decide_eq_false c27
          clear c27
          obtain rfl := Option.some.inj H
          go_wp2
          go_ret
          exact ⟨by first | rfl | (simp [errW_none, errW_some] <;> rfl) | (simp [*, errW_none, errW_some] <;> rfl), bB⟩
end Go.Proofs.Ytjofkebiacaciaa.PAll
end
section
namespace Go.Proofs.Ytjofkebiacaciaa.PAll
open Go.RowKit Go.Proofs.YtjofkebiacaciaaW.PrintWords Go.Proofs.YtjofkebiacaciaaW.PrintLast Go.Proofs.YtjofkebiacaciaaW.PrintMore
attribute [local go_sem] max2_int min2_int max_two min_two max_three min_three max_four min_four
set_option linter.unusedVariables false
set_option linter.unusedSimpArgs false
def semigroupref04_Validate.f (k : Nat) (a0_0 : Int) (a0_1 : Int) (l0_2 : List (S24)) (a1 : Int) : Option (Int) := (semigroupref01_MayLetters.f a1).bind fun t119 => (if t119 = true then ((semigroupref04_Within.f k a0_0 a0_1 l0_2).bind fun t120 => (if t120 = true then ((semigroupref04_shaped.f k a0_0 a0_1 l0_2 a1).bind fun t121 => (if t121 = true then (some 0) else (some 4))) else (some 3))) else (some 1))
theorem semigroupref04_Validate.mono : ∀ a0 a1 a2 a3 k, LeO (semigroupref04_Validate.f k a0 a1 a2 a3) (semigroupref04_Validate.f (k + 1) a0 a1 a2 a3) := by
 intro a0 a1 a2 a3 k
 unfold semigroupref04_Validate.f
 repeat' first
   | (with_reducible exact semigroupref04_Within.mono _ _ _ _)
   | (with_reducible exact semigroupref04_shaped.mono _ _ _ _ _)
   | (with_reducible exact LeO.refl _)
   | (with_reducible exact LeO.none _)
   | (with_reducible refine LeO.ite ?_ ?_)
   | (with_reducible refine LeO.bind ?_ (fun _ => ?_))
   | exact semigroupref04_Within.mono _ _ _ _
   | exact semigroupref04_shaped.mono _ _ _ _ _
   | exact LeO.none _
   | refine LeO.ite ?_ ?_
   | refine LeO.bind ?_ (fun _ => ?_)
set_option maxHeartbeats 8000000 in
set_option maxRecDepth 100000 in
theorem semigroupref04_Validate.calls (k : Nat) (a0_0 : Int) (a0_1 : Int) (A0_2 : Option Addr) (c0_2 : Nat) (l0_2 : List (S24)) (a1 : Int) (r : Int) (w : World) (hr0_2 : Kd.C k24 w A0_2 l0_2.length l0_2) (hc0_2 : l0_2.length ≤ c0_2) (h : semigroupref04_Validate.f k a0_0 a0_1 l0_2 a1 = some r) :
  Calls Try.prog 16 #[.agg #[.int .i64 a0_0, .int .i64 a0_1, .slice A0_2 l0_2.length c0_2], .int .i64 a1] w fun e w' => e = .returned (.int .i64 r) ∧ Below w.heap.size w w' := by
 have hu24 := Try.underlying24
 have HR0_2 := Aside0.mk hr0_2
 have HC0_2 := Aside0.mk hc0_2
 clear hr0_2 hc0_2
 have HB := Aside0.mk (Below.refl w.heap.size w)
 have H : ((semigroupref01_MayLetters.f a1).bind fun t119 => (if t119 = true then ((semigroupref04_Within.f k a0_0 a0_1 l0_2).bind fun t120 => (if t120 = true then ((semigroupref04_shaped.f k a0_0 a0_1 l0_2 a1).bind fun t121 => (if t121 = true then (some 0) else (some 4))) else (some 3))) else (some 1))) = some r := h
 clear h
 replace H := Option.bind_eq_some_iff.mp H
 obtain ⟨t119, A30, H⟩ := H
 replace H : (if t119 = true then ((semigroupref04_Within.f k a0_0 a0_1 l0_2).bind fun t120 => (if t120 = true then ((semigroupref04_shaped.f k a0_0 a0_1 l0_2 a1).bind fun t121 => (if t121 = true then (some 0) else (some 4))) else (some 3))) else (some 1)) = some r := H
 have A3 := Aside0.mk A30
 clear A30
 by_cases c4 : t119 = true
 ·subst c4
  have H1 : ((semigroupref04_Within.f k a0_0 a0_1 l0_2).bind fun t120 => (if t120 = true then ((semigroupref04_shaped.f k a0_0 a0_1 l0_2 a1).bind fun t121 => (if t121 = true then (some 0) else (some 4))) else (some 3))) = some r := by rw [if_pos rfl] at H; exact H
  clear H
  have H := H1
  clear H1
  replace H := Option.bind_eq_some_iff.mp H
  obtain ⟨t120, A50, H⟩ := H
  replace H : (if t120 = true then ((semigroupref04_shaped.f k a0_0 a0_1 l0_2 a1).bind fun t121 => (if t121 = true then (some 0) else (some 4))) else (some 3)) = some r := H
  have A5 := Aside0.mk A50
  clear A50
  by_cases c6 : t120 = true
  ·subst c6
   have H1 : ((semigroupref04_shaped.f k a0_0 a0_1 l0_2 a1).bind fun t121 => (if t121 = true then (some 0) else (some 4))) = some r := by rw [if_pos rfl] at H; exact H
   clear H
   have H := H1
   clear H1
   replace H := Option.bind_eq_some_iff.mp H
   obtain ⟨t121, A70, H⟩ := H
   replace H : (if t121 = true then (some 0) else (some 4)) = some r := H
   have A7 := Aside0.mk A70
   clear A70
   by_cases c8 : t121 = true
   ·subst c8
    have H1 : (some 0) = some r := by rw [if_pos rfl] at H; exact H
    clear H
    have H := H1
    clear H1
    obtain rfl := Option.some.inj H
    go_enter Try.func16, Try.ntmps16
    go_wp2_with (first | ((with_reducible refine gate_dst (N := 2) rfl ?_); refine box_event ?hg (N := 2) ?hd (cs := #[.int .i64 a0_0, .int .i64 a0_1, .slice A0_2 l0_2.length c0_2]) (t := 24) ?hr ?_; (case hd => rfl); (case hg => rfl); (case hr => first | (go_simp; done) | (go_simp; rfl)); intro gb118 hg w9 hbox hb; have n0_ := Aside0.mk (below_step (bB) hb); have n1_ := Aside0.mk (hbox); have n2_ := Aside0.mk ((by rw [hg]; exact (below_size (bB)) : w.heap.size ≤ gb118)); have n3_ := Aside0.mk ((by rw [hg]; exact (below_size (bB)) : w.heap.size ≤ gb118)); clear HB; have HB := n0_; have BK118 := n1_; have GW118 := n2_; have GE118 := n3_; clear n0_ n1_ n2_ n3_; clear hb hbox hg) | ((with_reducible refine gate_callee (f := 43) rfl ?_); refine goesL_ (some 7) rfl rfl Try.func43 (by kernel_rfl) rfl #[.int .i64 a1] rfl (by (try simp only [List.map_toArray, List.map_cons, List.map_nil]); first | done | rfl | (simp only [List.length_drop, List.length_take]; rfl) | (simp only [Int.ofNat_lt, Int.ofNat_le]; rfl)) ?_; (with_reducible refine (semigroupref01_MayLetters.calls a1 true _ A3.out).mono ?_); rintro e w' ⟨rfl, ⟨nd, rfl⟩⟩; refine ⟨_, rfl, ?_⟩; have hcz10_0 : w9.cell? ⟨gb118, 0, none⟩ = some (.int .i64 a0_0) := (blk_cell BK118.out 0).trans rfl; have hcz10_1 : w9.cell? ⟨gb118, 1, none⟩ = some (.int .i64 a0_1) := (blk_cell BK118.out 1).trans rfl; have hcz10_2 : w9.cell? ⟨gb118, 2, none⟩ = some (.slice A0_2 l0_2.length c0_2) := (blk_cell BK118.out 2).trans rfl; have hfz10_0 := blk_frozen BK118.out 0; have hfz10_1 := blk_frozen BK118.out 1; have hfz10_2 := blk_frozen BK118.out 2) | ((with_reducible refine gate_callee (f := 44) rfl ?_); refine goesL_ (some 11) rfl rfl Try.func44 (by kernel_rfl) rfl #[.agg #[.int .i64 a0_0, .int .i64 a0_1, .slice A0_2 l0_2.length c0_2]] rfl (by (try simp only [List.map_toArray, List.map_cons, List.map_nil]); first | done | rfl | (simp only [List.length_drop, List.length_take]; rfl) | (simp only [Int.ofNat_lt, Int.ofNat_le]; rfl)) ?_; (with_reducible refine (semigroupref04_Within.calls k a0_0 a0_1 _ _ l0_2 true _ ?side1 ?side2 A5.out).mono ?_); (case side1 => repeat (first | exact (Kd.C_below HR0_2.out (bB)) | (with_reducible refine Kd.C_alloc ?_ _) | (with_reducible refine Kd.C_drewN ?_ _) | (with_reducible refine Kd.C_drew ?_))); (case side2 => exact HC0_2.out); rintro e w11 ⟨rfl, hb⟩; refine ⟨_, rfl, ?_⟩; have n0_ := Aside0.mk (blk_below (g := gb118) (o := .cells #[.int .i64 a0_0, .int .i64 a0_1, .slice A0_2 l0_2.length c0_2] 24 (0, 0)) (bK) hb); have n1_ := Aside0.mk (below_step (bB) hb); clear BK118; clear HB; have BK118 := n0_; have HB := n1_; clear n0_ n1_; (try clear hb); (try clear hb2); (try clear hk); (try clear hi); have hcz12_0 : w11.cell? ⟨gb118, 0, none⟩ = some (.int .i64 a0_0) := (blk_cell BK118.out 0).trans rfl; have hcz12_1 : w11.cell? ⟨gb118, 1, none⟩ = some (.int .i64 a0_1) := (blk_cell BK118.out 1).trans rfl; have hcz12_2 : w11.cell? ⟨gb118, 2, none⟩ = some (.slice A0_2 l0_2.length c0_2) := (blk_cell BK118.out 2).trans rfl; have hfz12_0 := blk_frozen BK118.out 0; have hfz12_1 := blk_frozen BK118.out 1; have hfz12_2 := blk_frozen BK118.out 2) | ((with_reducible refine gate_callee (f := 45) rfl ?_); refine goesL_ (some 16) rfl rfl Try.func45 (by kernel_rfl) rfl #[.agg #[.int .i64 a0_0, .int .i64 a0_1, .slice A0_2 l0_2.length c0_2], .int .i64 a1] rfl (by (try simp only [List.map_toArray, List.map_cons, List.map_nil]); first | done | rfl | (simp only [List.length_drop, List.length_take]; rfl) | (simp only [Int.ofNat_lt, Int.ofNat_le]; rfl)) ?_; (with_reducible refine (semigroupref04_shaped.calls k a0_0 a0_1 _ _ l0_2 a1 true _ ?side1 ?side2 A7.out).mono ?_); (case side1 => repeat (first | exact (Kd.C_below HR0_2.out HB.out) | (with_reducible refine Kd.C_alloc ?_ _) | (with_reducible refine Kd.C_drewN ?_ _) | (with_reducible refine Kd.C_drew ?_))); (case side2 => exact HC0_2.out); rintro e w13 ⟨rfl, hb⟩; refine ⟨_, rfl, ?_⟩; have n0_ := Aside0.mk (blk_below (g := gb118) (o := .cells #[.int .i64 a0_0, .int .i64 a0_1, .slice A0_2 l0_2.length c0_2] 24 (0, 0)) (bK) hb); have n1_ := Aside0.mk (below_step (bB) hb); clear BK118; clear HB; have BK118 := n0_; have HB := n1_; clear n0_ n1_; (try clear hb); (try clear hb2); (try clear hk); (try clear hi)))
    go_ret
    exact ⟨by first | rfl | (simp [errW_none, errW_some] <;> rfl) | (simp [*, errW_none, errW_some] <;> rfl), bB⟩
   ·replace c8 := Bool.eq_false_iff.mpr c8
    subst c8
    have H1 : (some 4) = some r := by rw [if_neg (show ¬ (false = true) by decide)] at H; exact H
    clear H
    have H := H1
    clear H1
    obtain rfl := Option.some.inj H
    go_enter Try.func16, Try.ntmps16
    go_wp2_with (first | ((with_reducible refine gate_dst (N := 2) rfl ?_); refine box_event ?hg (N := 2) ?hd (cs := #[.int .i64 a0_0, .int .i64 a0_1, .slice A0_2 l0_2.length c0_2]) (t := 24) ?hr ?_; (case hd => rfl); (case hg => rfl); (case hr => first | (go_simp; done) | (go_simp; rfl)); intro gb118 hg w14 hbox hb; have n0_ := Aside0.mk (below_step (bB) hb); have n1_ := Aside0.mk (hbox); have n2_ := Aside0.mk ((by rw [hg]; exact (below_size (bB)) : w.heap.size ≤ gb118)); have n3_ := Aside0.mk ((by rw [hg]; exact (below_size (bB)) : w.heap.size ≤ gb118)); clear HB; have HB := n0_; have BK118 := n1_; have GW118 := n2_; have GE118 := n3_; clear n0_ n1_ n2_ n3_; clear hb hbox hg) | ((with_reducible refine gate_callee (f := 43) rfl ?_); refine goesL_ (some 7) rfl rfl Try.func43 (by kernel_rfl) rfl #[.int .i64 a1] rfl (by (try simp only [List.map_toArray, List.map_cons, List.map_nil]); first | done | rfl | (simp only [List.length_drop, List.length_take]; rfl) | (simp only [Int.ofNat_lt, Int.ofNat_le]; rfl)) ?_; (with_reducible refine (semigroupref01_MayLetters.calls a1 true _ A3.out).mono ?_); rintro e w' ⟨rfl, ⟨nd, rfl⟩⟩; refine ⟨_, rfl, ?_⟩; have hcz15_0 : w14.cell? ⟨gb118, 0, none⟩ = some (.int .i64 a0_0) := (blk_cell BK118.out 0).trans rfl; have hcz15_1 : w14.cell? ⟨gb118, 1, none⟩ = some (.int .i64 a0_1) := (blk_cell BK118.out 1).trans rfl; have hcz15_2 : w14.cell? ⟨gb118, 2, none⟩ = some (.slice A0_2 l0_2.length c0_2) := (blk_cell BK118.out 2).trans rfl; have hfz15_0 := blk_frozen BK118.out 0; have hfz15_1 := blk_frozen BK118.out 1; have hfz15_2 := blk_frozen BK118.out 2) | ((with_reducible refine gate_callee (f := 44) rfl ?_); refine goesL_ (some 11) rfl rfl Try.func44 (by kernel_rfl) rfl #[.agg #[.int .i64 a0_0, .int .i64 a0_1, .slice A0_2 l0_2.length c0_2]] rfl (by (try simp only [List.map_toArray, List.map_cons, List.map_nil]); first | done | rfl | (simp only [List.length_drop, List.length_take]; rfl) | (simp only [Int.ofNat_lt, Int.ofNat_le]; rfl)) ?_; (with_reducible refine (semigroupref04_Within.calls k a0_0 a0_1 _ _ l0_2 true _ ?side1 ?side2 A5.out).mono ?_); (case side1 => repeat (first | exact (Kd.C_below HR0_2.out (bB)) | (with_reducible refine Kd.C_alloc ?_ _) | (with_reducible refine Kd.C_drewN ?_ _) | (with_reducible refine Kd.C_drew ?_))); (case side2 => exact HC0_2.out); rintro e w16 ⟨rfl, hb⟩; refine ⟨_, rfl, ?_⟩; have n0_ := Aside0.mk (blk_below (g := gb118) (o := .cells #[.int .i64 a0_0, .int .i64 a0_1, .slice A0_2 l0_2.length c0_2] 24 (0, 0)) (bK) hb); have n1_ := Aside0.mk (below_step (bB) hb); clear BK118; clear HB; have BK118 := n0_; have HB := n1_; clear n0_ n1_; (try clear hb); (try clear hb2); (try clear hk); (try clear hi); have hcz17_0 : w16.cell? ⟨gb118, 0, none⟩ = some (.int .i64 a0_0) := (blk_cell BK118.out 0).trans rfl; have hcz17_1 : w16.cell? ⟨gb118, 1, none⟩ = some (.int .i64 a0_1) := (blk_cell BK118.out 1).trans rfl; have hcz17_2 : w16.cell? ⟨gb118, 2, none⟩ = some (.slice A0_2 l0_2.length c0_2) := (blk_cell BK118.out 2).trans rfl; have hfz17_0 := blk_frozen BK118.out 0; have hfz17_1 := blk_frozen BK118.out 1; have hfz17_2 := blk_frozen BK118.out 2) | ((with_reducible refine gate_callee (f := 45) rfl ?_); refine goesL_ (some 16) rfl rfl Try.func45 (by kernel_rfl) rfl #[.agg #[.int .i64 a0_0, .int .i64 a0_1, .slice A0_2 l0_2.length c0_2], .int .i64 a1] rfl (by (try simp only [List.map_toArray, List.map_cons, List.map_nil]); first | done | rfl | (simp only [List.length_drop, List.length_take]; rfl) | (simp only [Int.ofNat_lt, Int.ofNat_le]; rfl)) ?_; (with_reducible refine (semigroupref04_shaped.calls k a0_0 a0_1 _ _ l0_2 a1 false _ ?side1 ?side2 A7.out).mono ?_); (case side1 => repeat (first | exact (Kd.C_below HR0_2.out HB.out) | (with_reducible refine Kd.C_alloc ?_ _) | (with_reducible refine Kd.C_drewN ?_ _) | (with_reducible refine Kd.C_drew ?_))); (case side2 => exact HC0_2.out); rintro e w18 ⟨rfl, hb⟩; refine ⟨_, rfl, ?_⟩; have n0_ := Aside0.mk (blk_below (g := gb118) (o := .cells #[.int .i64 a0_0, .int .i64 a0_1, .slice A0_2 l0_2.length c0_2] 24 (0, 0)) (bK) hb); have n1_ := Aside0.mk (below_step (bB) hb); clear BK118; clear HB; have BK118 := n0_; have HB := n1_; clear n0_ n1_; (try clear hb); (try clear hb2); (try clear hk); (try clear hi)))
    go_ret
    exact ⟨by first | rfl | (simp [errW_none, errW_some] <;> rfl) | (simp [*, errW_none, errW_some] <;> rfl), bB⟩
  ·replace c6 := Bool.eq_false_iff.mpr c6
   subst c6
   have H1 : (some 3) = some r := by rw [if_neg (show ¬ (false = true) by decide)] at H; exact H
   clear H
   have H := H1
   clear H1
   obtain rfl := Option.some.inj H
   go_enter Try.func16, Try.ntmps16
   go_wp2_with (first | ((with_reducible refine gate_dst (N := 2) rfl ?_); refine box_event ?hg (N := 2) ?hd (cs := #[.int .i64 a0_0, .int .i64 a0_1, .slice A0_2 l0_2.length c0_2]) (t := 24) ?hr ?_; (case hd => rfl); (case hg => rfl); (case hr => first | (go_simp; done) | (go_simp; rfl)); intro gb118 hg w19 hbox hb; have n0_ := Aside0.mk (below_step (bB) hb); have n1_ := Aside0.mk (hbox); have n2_ := Aside0.mk ((by rw [hg]; exact (below_size (bB)) : w.heap.size ≤ gb118)); have n3_ := Aside0.mk ((by rw [hg]; exact (below_size (bB)) : w.heap.size ≤ gb118)); clear HB; have HB := n0_; have BK118 := n1_; have GW118 := n2_; have GE118 := n3_; clear n0_ n1_ n2_ n3_; clear hb hbox hg) | ((with_reducible refine gate_callee (f := 43) rfl ?_); refine goesL_ (some 7) rfl rfl Try.func43 (by kernel_rfl) rfl #[.int .i64 a1] rfl (by (try simp only [List.map_toArray, List.map_cons, List.map_nil]); first | done | rfl | (simp only [List.length_drop, List.length_take]; rfl) | (simp only [Int.ofNat_lt, Int.ofNat_le]; rfl)) ?_; (with_reducible refine (semigroupref01_MayLetters.calls a1 true _ A3.out).mono ?_); rintro e w' ⟨rfl, ⟨nd, rfl⟩⟩; refine ⟨_, rfl, ?_⟩; have hcz20_0 : w19.cell? ⟨gb118, 0, none⟩ = some (.int .i64 a0_0) := (blk_cell BK118.out 0).trans rfl; have hcz20_1 : w19.cell? ⟨gb118, 1, none⟩ = some (.int .i64 a0_1) := (blk_cell BK118.out 1).trans rfl; have hcz20_2 : w19.cell? ⟨gb118, 2, none⟩ = some (.slice A0_2 l0_2.length c0_2) := (blk_cell BK118.out 2).trans rfl; have hfz20_0 := blk_frozen BK118.out 0; have hfz20_1 := blk_frozen BK118.out 1; have hfz20_2 := blk_frozen BK118.out 2) | ((with_reducible refine gate_callee (f := 44) rfl ?_); refine goesL_ (some 11) rfl rfl Try.func44 (by kernel_rfl) rfl #[.agg #[.int .i64 a0_0, .int .i64 a0_1, .slice A0_2 l0_2.length c0_2]] rfl (by (try simp only [List.map_toArray, List.map_cons, List.map_nil]); first | done | rfl | (simp only [List.length_drop, List.length_take]; rfl) | (simp only [Int.ofNat_lt, Int.ofNat_le]; rfl)) ?_; (with_reducible refine (semigroupref04_Within.calls k a0_0 a0_1 _ _ l0_2 false _ ?side1 ?side2 A5.out).mono ?_); (case side1 => repeat (first | exact (Kd.C_below HR0_2.out (bB)) | (with_reducible refine Kd.C_alloc ?_ _) | (with_reducible refine Kd.C_drewN ?_ _) | (with_reducible refine Kd.C_drew ?_))); (case side2 => exact HC0_2.out); rintro e w21 ⟨rfl, hb⟩; refine ⟨_, rfl, ?_⟩; have n0_ := Aside0.mk (blk_below (g := gb118) (o := .cells #[.int .i64 a0_0, .int .i64 a0_1, .slice A0_2 l0_2.length c0_2] 24 (0, 0)) (bK) hb); have n1_ := Aside0.mk (below_step (bB) hb); clear BK118; clear HB; have BK118 := n0_; have HB := n1_; clear n0_ n1_; (try clear hb); (try clear hb2); (try clear hk); (try clear hi)))
   go_ret
   exact ⟨by first | rfl | (simp [errW_none, errW_some] <;> rfl) | (simp [*, errW_none, errW_some] <;> rfl), bB⟩
 ·replace c4 := Bool.eq_false_iff.mpr c4
  subst c4
  have H1 : (some 1) = some r := by rw [if_neg (show ¬ (false = true) by decide)] at H; exact H
  clear H
  have H := H1
  clear H1
  obtain rfl := Option.some.inj H
  go_enter Try.func16, Try.ntmps16
  go_wp2_with (first | ((with_reducible refine gate_dst (N := 2) rfl ?_); refine box_event ?hg (N := 2) ?hd (cs := #[.int .i64 a0_0, .int .i64 a0_1, .slice A0_2 l0_2.length c0_2]) (t := 24) ?hr ?_; (case hd => rfl); (case hg => rfl); (case hr => first | (go_simp; done) | (go_simp; rfl)); intro gb118 hg w22 hbox hb; have n0_ := Aside0.mk (below_step (bB) hb); have n1_ := Aside0.mk (hbox); have n2_ := Aside0.mk ((by rw [hg]; exact (below_size (bB)) : w.heap.size ≤ gb118)); have n3_ := Aside0.mk ((by rw [hg]; exact (below_size (bB)) : w.heap.size ≤ gb118)); clear HB; have HB := n0_; have BK118 := n1_; have GW118 := n2_; have GE118 := n3_; clear n0_ n1_ n2_ n3_; clear hb hbox hg) | ((with_reducible refine gate_callee (f := 43) rfl ?_); refine goesL_ (some 7) rfl rfl Try.func43 (by kernel_rfl) rfl #[.int .i64 a1] rfl (by (try simp only [List.map_toArray, List.map_cons, List.map_nil]); first | done | rfl | (simp only [List.length_drop, List.length_take]; rfl) | (simp only [Int.ofNat_lt, Int.ofNat_le]; rfl)) ?_; (with_reducible refine (semigroupref01_MayLetters.calls a1 false _ A3.out).mono ?_); rintro e w' ⟨rfl, ⟨nd, rfl⟩⟩; refine ⟨_, rfl, ?_⟩))
  go_ret
  exact ⟨by first | rfl | (simp [errW_none, errW_some] <;> rfl) | (simp [*, errW_none, errW_some] <;> rfl), bB⟩
end Go.Proofs.Ytjofkebiacaciaa.PAll
end
section
namespace Go.Proofs.Ytjofkebiacaciaa.PAll
open Go.RowKit Go.Proofs.YtjofkebiacaciaaW.PrintWords Go.Proofs.YtjofkebiacaciaaW.PrintLast Go.Proofs.YtjofkebiacaciaaW.PrintMore
attribute [local go_sem] max2_int min2_int max_two min_two max_three min_three max_four min_four
set_option linter.unusedVariables false
set_option linter.unusedSimpArgs false
def semigroupref04_Valid.f (k : Nat) (a0_0 : Int) (a0_1 : Int) (l0_2 : List (S24)) : Option (Bool) := (semigroupref04_Validate.f k a0_0 a0_1 l0_2 6).bind fun t309 => (some (t309 == 0))
theorem semigroupref04_Valid.mono : ∀ a0 a1 a2 k, LeO (semigroupref04_Valid.f k a0 a1 a2) (semigroupref04_Valid.f (k + 1) a0 a1 a2) := by
 intro a0 a1 a2 k
 unfold semigroupref04_Valid.f
 repeat' first
   | (with_reducible exact semigroupref04_Validate.mono _ _ _ _ _)
   | (with_reducible exact LeO.refl _)
   | (with_reducible exact LeO.none _)
   | (with_reducible refine LeO.ite ?_ ?_)
   | (with_reducible refine LeO.bind ?_ (fun _ => ?_))
   | exact semigroupref04_Validate.mono _ _ _ _ _
   | exact LeO.none _
   | refine LeO.ite ?_ ?_
   | refine LeO.bind ?_ (fun _ => ?_)
set_option maxHeartbeats 8000000 in
set_option maxRecDepth 100000 in
theorem semigroupref04_Valid.calls (k : Nat) (a0_0 : Int) (a0_1 : Int) (A0_2 : Option Addr) (c0_2 : Nat) (l0_2 : List (S24)) (r : Bool) (w : World) (hr0_2 : Kd.C k24 w A0_2 l0_2.length l0_2) (hc0_2 : l0_2.length ≤ c0_2) (h : semigroupref04_Valid.f k a0_0 a0_1 l0_2 = some r) :
  Calls Try.prog 19 #[.agg #[.int .i64 a0_0, .int .i64 a0_1, .slice A0_2 l0_2.length c0_2]] w fun e w' => e = .returned (.bool r) ∧ Below w.heap.size w w' := by
 have hu24 := Try.underlying24
 have HR0_2 := Aside0.mk hr0_2
 have HC0_2 := Aside0.mk hc0_2
 clear hr0_2 hc0_2
 have HB := Aside0.mk (Below.refl w.heap.size w)
 have H : ((semigroupref04_Validate.f k a0_0 a0_1 l0_2 6).bind fun t309 => (some (t309 == 0))) = some r := h
 clear h
 replace H := Option.bind_eq_some_iff.mp H
 obtain ⟨t309, A20, H⟩ := H
 replace H : (some (t309 == 0)) = some r := H
 have A2 := Aside0.mk A20
 clear A20
 obtain rfl := Option.some.inj H
 go_enter Try.func19, Try.ntmps19
 go_wp2_with (first | ((with_reducible refine gate_dst (N := 1) rfl ?_); refine box_event ?hg (N := 1) ?hd (cs := #[.int .i64 a0_0, .int .i64 a0_1, .slice A0_2 l0_2.length c0_2]) (t := 24) ?hr ?_; (case hd => rfl); (case hg => rfl); (case hr => first | (go_simp; done) | (go_simp; rfl)); intro gb308 hg w3 hbox hb; have n0_ := Aside0.mk (below_step (bB) hb); have n1_ := Aside0.mk (hbox); have n2_ := Aside0.mk ((by rw [hg]; exact (below_size (bB)) : w.heap.size ≤ gb308)); have n3_ := Aside0.mk ((by rw [hg]; exact (below_size (bB)) : w.heap.size ≤ gb308)); clear HB; have HB := n0_; have BK308 := n1_; have GW308 := n2_; have GE308 := n3_; clear n0_ n1_ n2_ n3_; clear hb hbox hg; have hcz4_0 : w3.cell? ⟨gb308, 0, none⟩ = some (.int .i64 a0_0) := (blk_cell BK308.out 0).trans rfl; have hcz4_1 : w3.cell? ⟨gb308, 1, none⟩ = some (.int .i64 a0_1) := (blk_cell BK308.out 1).trans rfl; have hcz4_2 : w3.cell? ⟨gb308, 2, none⟩ = some (.slice A0_2 l0_2.length c0_2) := (blk_cell BK308.out 2).trans rfl; have hfz4_0 := blk_frozen BK308.out 0; have hfz4_1 := blk_frozen BK308.out 1; have hfz4_2 := blk_frozen BK308.out 2) | ((with_reducible refine gate_callee (f := 16) rfl ?_); refine goesL_ (some 4) rfl rfl Try.func16 (by kernel_rfl) rfl #[.agg #[.int .i64 a0_0, .int .i64 a0_1, .slice A0_2 l0_2.length c0_2], .int .i64 6] rfl (by (try simp only [List.map_toArray, List.map_cons, List.map_nil]); first | done | rfl | (simp only [List.length_drop, List.length_take]; rfl) | (simp only [Int.ofNat_lt, Int.ofNat_le]; rfl)) ?_; (with_reducible refine (semigroupref04_Validate.calls k a0_0 a0_1 _ _ l0_2 6 t309 _ ?side1 ?side2 A2.out).mono ?_); (case side1 => repeat (first | exact (Kd.C_below HR0_2.out HB.out) | (with_reducible refine Kd.C_alloc ?_ _) | (with_reducible refine Kd.C_drewN ?_ _) | (with_reducible refine Kd.C_drew ?_))); (case side2 => exact HC0_2.out); rintro e w5 ⟨rfl, hb⟩; refine ⟨_, rfl, ?_⟩; have n0_ := Aside0.mk (blk_below (g := gb308) (o := .cells #[.int .i64 a0_0, .int .i64 a0_1, .slice A0_2 l0_2.length c0_2] 24 (0, 0)) (bK) hb); have n1_ := Aside0.mk (below_step (bB) hb); clear BK308; clear HB; have BK308 := n0_; have HB := n1_; clear n0_ n1_; (try clear hb); (try clear hb2); (try clear hk); (try clear hi)))
 go_ret
 exact ⟨by first | rfl | (simp [errW_none, errW_some] <;> rfl) | (simp [*, errW_none, errW_some] <;> rfl), bB⟩
end Go.Proofs.Ytjofkebiacaciaa.PAll
end
section
namespace Go.Proofs.Ytjofkebiacaciaa.PAll
open Go.RowKit Go.Proofs.YtjofkebiacaciaaW.PrintWords Go.Proofs.YtjofkebiacaciaaW.PrintLast Go.Proofs.YtjofkebiacaciaaW.PrintMore
attribute [local go_sem] max2_int min2_int max_two min_two max_three min_three max_four min_four
set_option linter.unusedVariables false
set_option linter.unusedSimpArgs false
def semigroupref04_sign.f (a0 : Bool) : Option (Int) := if a0 = true then (some (-1)) else (some 1)
set_option maxHeartbeats 8000000 in
set_option maxRecDepth 100000 in
theorem semigroupref04_sign.calls (a0 : Bool) (r : Int) (w : World) (h : semigroupref04_sign.f a0 = some r) :
  Calls Try.prog 53 #[.bool a0] w fun e w' => e = .returned (.int .i64 r) ∧ Drawn0 w w' := by
 have H : (if a0 = true then (some (-1)) else (some 1)) = some r := h
 clear h
 by_cases c2 : a0 = true
 ·subst c2
  have H1 : (some (-1)) = some r := by rw [if_pos rfl] at H; exact H
  clear H
  have H := H1
  clear H1
  obtain rfl := Option.some.inj H
  go_enter Try.func53, Try.ntmps53
  go_wp2
  go_ret
  exact ⟨by first | rfl | (simp; done) | (simp [*]; done), by repeat (first | exact Drawn0.refl _ | apply Drawn0.step)⟩
 ·replace c2 := Bool.eq_false_iff.mpr c2
  subst c2
  have H1 : (some 1) = some r := by rw [if_neg (show ¬ (false = true) by decide)] at H; exact H
  clear H
  have H := H1
  clear H1
  obtain rfl := Option.some.inj H
  go_enter Try.func53, Try.ntmps53
  go_wp2
  go_ret
  exact ⟨by first | rfl | (simp; done) | (simp [*]; done), by repeat (first | exact Drawn0.refl _ | apply Drawn0.step)⟩
end Go.Proofs.Ytjofkebiacaciaa.PAll
end
section
namespace Go.Proofs.Ytjofkebiacaciaa.PAll
open Go.RowKit Go.Proofs.YtjofkebiacaciaaW.PrintWords Go.Proofs.YtjofkebiacaciaaW.PrintLast Go.Proofs.YtjofkebiacaciaaW.PrintMore
attribute [local go_sem] max2_int min2_int max_two min_two max_three min_three max_four min_four
set_option linter.unusedVariables false
set_option linter.unusedSimpArgs false
mutual
def semigroupref04_Compare.l0 : Nat → Int → Int → Int → List (S24) → Int → Int → List (S24) → Option (Int)
 | 0, _, _, _, _, _, _, _ => none
 | k + 1, x5, x321000, x321001, x321002, x322000, x322001, x322002 => if x5 < (x321002.length : Int) then (semigroupref04_Compare.j1 k x5 (decide (x5 < (x322002.length : Int))) x321000 x321001 x321002 x322000 x322001 x322002) else (semigroupref04_Compare.j1 k x5 false x321000 x321001 x321002 x322000 x322001 x322002)
def semigroupref04_Compare.j1 : Nat → Int → Bool → Int → Int → List (S24) → Int → Int → List (S24) → Option (Int)
 | 0, _, _, _, _, _, _, _, _ => none
 | k + 1, x5, x42, x321000, x321001, x321002, x322000, x322001, x322002 => if x42 = true then (if 0 ≤ x5 then (if x5 < (x321002.length : Int) then (if x5 < (x322002.length : Int) then ((semigroupref04_Compare.f k ((rd_T24 x321002 x5).f0) ((rd_T24 x321002 x5).f1) ((rd_T24 x321002 x5).f2) ((rd_T24 x322002 x5).f0) ((rd_T24 x322002 x5).f1) ((rd_T24 x322002 x5).f2)).bind fun t326 => (if t326 = 0 then (semigroupref04_Compare.l0 k (wrap64 (x5 + 1)) x321000 x321001 x321002 x322000 x322001 x322002) else (some t326))) else (none)) else (none)) else (none)) else (if (x321002.length : Int) = (x322002.length : Int) then (some 0) else ((semigroupref04_sign.f (decide ((x321002.length : Int) < (x322002.length : Int)))).bind fun t327 => (some t327)))
def semigroupref04_Compare.f : Nat → Int → Int → List (S24) → Int → Int → List (S24) → Option (Int)
 | 0, _, _, _, _, _, _ => none
 | k + 1, a0_0, a0_1, l0_2, a1_0, a1_1, l1_2 => if a0_0 = a1_0 then (if a0_1 = a1_1 then (semigroupref04_Compare.l0 k 0 a0_0 a0_1 l0_2 a1_0 a1_1 l1_2) else ((semigroupref04_sign.f (decide (a0_1 < a1_1))).bind fun t322 => (some t322))) else ((semigroupref04_sign.f (decide (a0_0 < a1_0))).bind fun t323 => (some t323))
end
theorem semigroupref04_Compare.mono_l : ∀ k, (∀ y0 y1 y2 y3 y4 y5, LeO (semigroupref04_Compare.f k y0 y1 y2 y3 y4 y5) (semigroupref04_Compare.f (k + 1) y0 y1 y2 y3 y4 y5)) ∧ (∀ y0 y1 y2 y3 y4 y5 y6, LeO (semigroupref04_Compare.l0 k y0 y1 y2 y3 y4 y5 y6) (semigroupref04_Compare.l0 (k + 1) y0 y1 y2 y3 y4 y5 y6)) ∧ (∀ y0 y1 y2 y3 y4 y5 y6 y7, LeO (semigroupref04_Compare.j1 k y0 y1 y2 y3 y4 y5 y6 y7) (semigroupref04_Compare.j1 (k + 1) y0 y1 y2 y3 y4 y5 y6 y7))
 | 0 => ⟨fun _ _ _ _ _ _ r h => by simp [semigroupref04_Compare.f] at h, fun _ _ _ _ _ _ _ r h => by simp [semigroupref04_Compare.l0] at h, fun _ _ _ _ _ _ _ _ r h => by simp [semigroupref04_Compare.j1] at h⟩
 | k + 1 => by
  obtain ⟨ih0, ih1, ih2⟩ := semigroupref04_Compare.mono_l k
  refine ⟨?_, ?_, ?_⟩
  ·intro y0 y1 y2 y3 y4 y5
   unfold semigroupref04_Compare.f
   repeat' first
   | (with_reducible exact ih0 _ _ _ _ _ _)
   | (with_reducible exact ih1 _ _ _ _ _ _ _)
   | (with_reducible exact ih2 _ _ _ _ _ _ _ _)
   | (with_reducible exact LeO.refl _)
   | (with_reducible exact LeO.none _)
   | (with_reducible refine LeO.ite ?_ ?_)
   | (with_reducible refine LeO.bind ?_ (fun _ => ?_))
   | exact ih0 _ _ _ _ _ _
   | exact ih1 _ _ _ _ _ _ _
   | exact ih2 _ _ _ _ _ _ _ _
   | exact LeO.none _
   | refine LeO.ite ?_ ?_
   | refine LeO.bind ?_ (fun _ => ?_)
  ·intro y0 y1 y2 y3 y4 y5 y6
   unfold semigroupref04_Compare.l0
   repeat' first
   | (with_reducible exact ih0 _ _ _ _ _ _)
   | (with_reducible exact ih1 _ _ _ _ _ _ _)
   | (with_reducible exact ih2 _ _ _ _ _ _ _ _)
   | (with_reducible exact LeO.refl _)
   | (with_reducible exact LeO.none _)
   | (with_reducible refine LeO.ite ?_ ?_)
   | (with_reducible refine LeO.bind ?_ (fun _ => ?_))
   | exact ih0 _ _ _ _ _ _
   | exact ih1 _ _ _ _ _ _ _
   | exact ih2 _ _ _ _ _ _ _ _
   | exact LeO.none _
   | refine LeO.ite ?_ ?_
   | refine LeO.bind ?_ (fun _ => ?_)
  ·intro y0 y1 y2 y3 y4 y5 y6 y7
   unfold semigroupref04_Compare.j1
   repeat' first
   | (with_reducible exact ih0 _ _ _ _ _ _)
   | (with_reducible exact ih1 _ _ _ _ _ _ _)
   | (with_reducible exact ih2 _ _ _ _ _ _ _ _)
   | (with_reducible exact LeO.refl _)
   | (with_reducible exact LeO.none _)
   | (with_reducible refine LeO.ite ?_ ?_)
   | (with_reducible refine LeO.bind ?_ (fun _ => ?_))
   | exact ih0 _ _ _ _ _ _
   | exact ih1 _ _ _ _ _ _ _
   | exact ih2 _ _ _ _ _ _ _ _
   | exact LeO.none _
   | refine LeO.ite ?_ ?_
   | refine LeO.bind ?_ (fun _ => ?_)
theorem semigroupref04_Compare.mono : ∀ a0 a1 a2 a3 a4 a5 k, LeO (semigroupref04_Compare.f k a0 a1 a2 a3 a4 a5) (semigroupref04_Compare.f (k + 1) a0 a1 a2 a3 a4 a5) := by
 intro a0 a1 a2 a3 a4 a5 k
 obtain ⟨ih0, ih1, ih2⟩ := semigroupref04_Compare.mono_l k
 exact ih0 a0 a1 a2 a3 a4 a5
def semigroupref04_Compare.T8 : Bool × List (List Nat × List Nat) := (true, [([], []), ([0], [0]), ([], []), ([1, 2], [1, 2]), ([3], [3]), ([], []), ([5], [5]), ([], []), ([6, 7], [6, 7]), ([8], [8]), ([4, 9], [4, 9]), ([10, 10, 0, 1, 2, 3, 4, 5, 6, 7, 8, 9, 10], [10])])
def semigroupref04_Compare.B8 : List Nat := [0, 1, 0, 7, 15, 0, 32, 0, 224, 480, 1023, 2047]
theorem semigroupref04_Compare.tab8 : rtab .any (opsOf Try.f24 8) = semigroupref04_Compare.T8 := by kernel_rfl
theorem semigroupref04_Compare.bits8 : waitsOk semigroupref04_Compare.T8.2 semigroupref04_Compare.B8 = true := by kernel_rfl
set_option maxHeartbeats 8000000 in
set_option maxRecDepth 100000 in
theorem semigroupref04_Compare.calls (k : Nat) : ∀ (a0_0 : Int) (a0_1 : Int) (A0_2 : Option Addr) (c0_2 : Nat) (l0_2 : List (S24)) (a1_0 : Int) (a1_1 : Int) (A1_2 : Option Addr) (c1_2 : Nat) (l1_2 : List (S24)) (r : Int) (w : World) (hr0_2 : Kd.C k24 w A0_2 l0_2.length l0_2) (hc0_2 : l0_2.length ≤ c0_2) (hr1_2 : Kd.C k24 w A1_2 l1_2.length l1_2) (hc1_2 : l1_2.length ≤ c1_2) (h : semigroupref04_Compare.f k a0_0 a0_1 l0_2 a1_0 a1_1 l1_2 = some r),
  Calls Try.prog 24 #[.agg #[.int .i64 a0_0, .int .i64 a0_1, .slice A0_2 l0_2.length c0_2], .agg #[.int .i64 a1_0, .int .i64 a1_1, .slice A1_2 l1_2.length c1_2]] w fun e w' => e = .returned (.int .i64 r) ∧ Below w.heap.size w w' := by
 induction k using Nat.strongRecOn with
 | _ k ih =>
 intro a0_0 a0_1 A0_2 c0_2 l0_2 a1_0 a1_1 A1_2 c1_2 l1_2 r w hr0_2 hc0_2 hr1_2 hc1_2 h
 cases k with
 | zero => exact absurd h (by simp [semigroupref04_Compare.f])
 | succ k =>
 simp only [semigroupref04_Compare.f] at h
 have hu24 := Try.underlying24
 have HR0_2 := Aside0.mk hr0_2
 have HC0_2 := Aside0.mk hc0_2
 clear hr0_2 hc0_2
 have HR1_2 := Aside0.mk hr1_2
 have HC1_2 := Aside0.mk hc1_2
 clear hr1_2 hc1_2
 have HB := Aside0.mk (Below.refl w.heap.size w)
 have H : (if a0_0 = a1_0 then (if a0_1 = a1_1 then (semigroupref04_Compare.l0 k 0 a0_0 a0_1 l0_2 a1_0 a1_1 l1_2) else ((semigroupref04_sign.f (decide (a0_1 < a1_1))).bind fun t322 => (some t322))) else ((semigroupref04_sign.f (decide (a0_0 < a1_0))).bind fun t323 => (some t323))) = some r := h
 clear h
 by_cases c3 : a0_0 = a1_0
 ·rw [if_pos c3] at H
  have c3b0 : (a0_0 == a1_0) = true := beq_iff_eq.mpr c3
  have c3b1 : (a0_0 != a1_0) = false := bne_eq_false_iff_eq.mpr c3
  clear c3
  by_cases c4 : a0_1 = a1_1
  ·rw [if_pos c4] at H
   have c4b0 : (a0_1 == a1_1) = true := beq_iff_eq.mpr c4
   have c4b1 : (a0_1 != a1_1) = false := bne_eq_false_iff_eq.mpr c4
   clear c4
   have H' := Aside0.mk H
   clear H
   go_enter Try.func24, Try.ntmps24
   go_wp2_with (first | ((with_reducible refine gate_dst (N := 2) rfl ?_); (try (refine gate_guard (by rfl) ?_; dsimp only)); refine box_event ?hg (N := 2) ?hd (cs := #[.int .i64 a0_0, .int .i64 a0_1, .slice A0_2 l0_2.length c0_2]) (t := 24) ?hr ?_; (case hd => rfl); (case hg => rfl); (case hr => first | (go_simp; done) | (go_simp; rfl)); intro gb320 hg w5 hbox hb; have n0_ := Aside0.mk (below_step (bB) hb); have n1_ := Aside0.mk (hbox); have n2_ := Aside0.mk ((by rw [hg]; exact (below_size (bB)) : w.heap.size ≤ gb320)); have n3_ := Aside0.mk ((by rw [hg]; exact (below_size (bB)) : w.heap.size ≤ gb320)); clear HB; have HB := n0_; have BK320 := n1_; have GW320 := n2_; have GE320 := n3_; clear n0_ n1_ n2_ n3_; clear hb hbox hg) | ((with_reducible refine gate_dst (N := 3) rfl ?_); (try (refine gate_guard (by rfl) ?_; dsimp only)); refine box_event ?hg (N := 3) ?hd (cs := #[.int .i64 a1_0, .int .i64 a1_1, .slice A1_2 l1_2.length c1_2]) (t := 24) ?hr ?_; (case hd => rfl); (case hg => rfl); (case hr => first | (go_simp; done) | (go_simp; rfl)); intro gb321 hg w6 hbox hb; have n0_ := Aside0.mk (blk_below (g := gb320) (o := .cells #[.int .i64 a0_0, .int .i64 a0_1, .slice A0_2 l0_2.length c0_2] 24 (0, 0)) (bK) hb); have n1_ := Aside0.mk (below_step (bB) hb); have n2_ := Aside0.mk (hbox); have n3_ := Aside0.mk ((by rw [hg]; exact (below_size (bB)) : w.heap.size ≤ gb321)); have n4_ := Aside0.mk ((by rw [hg]; exact (below_size (bB)) : w.heap.size ≤ gb321)); have n5_ := Aside0.mk ((by rw [hg]; exact Nat.ne_of_lt (blk_lt (g := gb320) (o := .cells #[.int .i64 a0_0, .int .i64 a0_1, .slice A0_2 l0_2.length c0_2] 24 (0, 0)) (bK)) : gb320 ≠ gb321)); have n6_ := Aside0.mk ((by rw [hg]; exact Nat.ne_of_gt (blk_lt (g := gb320) (o := .cells #[.int .i64 a0_0, .int .i64 a0_1, .slice A0_2 l0_2.length c0_2] 24 (0, 0)) (bK)) : gb321 ≠ gb320)); clear BK320; clear HB; have BK320 := n0_; have HB := n1_; have BK321 := n2_; have GW321 := n3_; have GE321 := n4_; have NB320_321 := n5_; have NB321_320 := n6_; clear n0_ n1_ n2_ n3_ n4_ n5_ n6_; clear hb hbox hg; have hnb7 := NB320_321.out; have hnc7 := NB321_320.out; have hcz8_0 : w6.cell? ⟨gb320, 0, none⟩ = some (.int .i64 a0_0) := (blk_cell BK320.out 0).trans rfl; have hcz8_1 : w6.cell? ⟨gb320, 1, none⟩ = some (.int .i64 a0_1) := (blk_cell BK320.out 1).trans rfl; have hcz8_2 : w6.cell? ⟨gb320, 2, none⟩ = some (.slice A0_2 l0_2.length c0_2) := (blk_cell BK320.out 2).trans rfl; have hfz8_0 := blk_frozen BK320.out 0; have hfz8_1 := blk_frozen BK320.out 1; have hfz8_2 := blk_frozen BK320.out 2; have hcz9_0 : w6.cell? ⟨gb321, 0, none⟩ = some (.int .i64 a1_0) := (blk_cell BK321.out 0).trans rfl; have hcz9_1 : w6.cell? ⟨gb321, 1, none⟩ = some (.int .i64 a1_1) := (blk_cell BK321.out 1).trans rfl; have hcz9_2 : w6.cell? ⟨gb321, 2, none⟩ = some (.slice A1_2 l1_2.length c1_2) := (blk_cell BK321.out 2).trans rfl; have hfz9_0 := blk_frozen BK321.out 0; have hfz9_1 := blk_frozen BK321.out 1; have hfz9_2 := blk_frozen BK321.out 2))
   go_loopg [5] k (fun kq v5 w' => ∃ (x5_1 : Int), v5 = .int .i64 x5_1 ∧ Aside0 (semigroupref04_Compare.l0 kq x5_1 a0_0 a0_1 l0_2 a1_0 a1_1 l1_2 = some r) ∧ Aside0 (kq ≤ k) ∧ Aside0 (w'.heap[gb320]? = some (.cells #[.int .i64 a0_0, .int .i64 a0_1, (.slice A0_2 l0_2.length c0_2)] 24 (0, 0))) ∧ Aside0 (w'.heap[gb321]? = some (.cells #[.int .i64 a1_0, .int .i64 a1_1, (.slice A1_2 l1_2.length c1_2)] 24 (0, 0))) ∧ Aside0 (Below w.heap.size w w'))
   case atStart => exact ⟨(0), (by first | rfl | (simp; done) | (simp [*]; done)), H', ⟨Nat.le_refl _⟩, ⟨bK⟩, ⟨bK⟩, ⟨bB⟩⟩
   case round =>
    clear H'
    try clear c1
    try clear c2
    try clear p2
    try clear c3
    try clear c3b0
    try clear c3b1
    try clear c4
    try clear c4b0
    try clear c4b1
    try clear c7
    try clear hcz8_0
    try clear hcz8_1
    try clear hcz8_2
    try clear hcz9_0
    try clear hcz9_1
    try clear hcz9_2
    try clear hfz8_0
    try clear hfz8_1
    try clear hfz8_2
    try clear hfz9_0
    try clear hfz9_1
    try clear hfz9_2
    obtain ⟨x5_1, rfl, HA, HK1, BK320, BK321, HB⟩ := hrel
    cases gk with
    | zero => exact absurd HA.out (by simp [semigroupref04_Compare.l0])
    | succ k1 =>
     have H := HA.out
     clear HA
     simp only [semigroupref04_Compare.l0] at H
     have HC10 := Aside0.mk H
     clear H
     go_upto_region 6 with (fail)
     go_cut [42] (fun v42 wc => ∃ (kq : Nat) (x42_9 : Bool), v42 = .bool x42_9 ∧ Aside0 (semigroupref04_Compare.j1 kq x5_1 x42_9 a0_0 a0_1 l0_2 a1_0 a1_1 l1_2 = some r) ∧ Aside0 (kq ≤ k1) ∧ Aside0 (wc.heap[gb320]? = some (.cells #[.int .i64 a0_0, .int .i64 a0_1, (.slice A0_2 l0_2.length c0_2)] 24 (0, 0))) ∧ Aside0 (wc.heap[gb321]? = some (.cells #[.int .i64 a1_0, .int .i64 a1_1, (.slice A1_2 l1_2.length c1_2)] 24 (0, 0))) ∧ Aside0 (Below w.heap.size w wc))
     case first =>
      have H := HC10.out
      clear HC10
      by_cases c11 : x5_1 < (l0_2.length : Int)
      ·rw [if_pos c11] at H
       have c11b0 : decide (x5_1 < (l0_2.length : Int)) = true := decide_eq_true c11
       clear c11
       (first | rw [c11b0] | (simp only [i64_w, i32_w]; rw [c11b0]) | skip)
       have H' := Aside0.mk H
       clear H
       have hnb12 := NB320_321.out
       have hnc12 := NB321_320.out
       have hcz13_0 : wr.cell? ⟨gb320, 0, none⟩ = some (.int .i64 a0_0) := (blk_cell BK320.out 0).trans rfl
       have hcz13_1 : wr.cell? ⟨gb320, 1, none⟩ = some (.int .i64 a0_1) := (blk_cell BK320.out 1).trans rfl
       have hcz13_2 : wr.cell? ⟨gb320, 2, none⟩ = some (.slice A0_2 l0_2.length c0_2) := (blk_cell BK320.out 2).trans rfl
       have hfz13_0 := blk_frozen BK320.out 0
       have hfz13_1 := blk_frozen BK320.out 1
       have hfz13_2 := blk_frozen BK320.out 2
       have hcz14_0 : wr.cell? ⟨gb321, 0, none⟩ = some (.int .i64 a1_0) := (blk_cell BK321.out 0).trans rfl
       have hcz14_1 : wr.cell? ⟨gb321, 1, none⟩ = some (.int .i64 a1_1) := (blk_cell BK321.out 1).trans rfl
       have hcz14_2 : wr.cell? ⟨gb321, 2, none⟩ = some (.slice A1_2 l1_2.length c1_2) := (blk_cell BK321.out 2).trans rfl
       have hfz14_0 := blk_frozen BK321.out 0
       have hfz14_1 := blk_frozen BK321.out 1
       have hfz14_2 := blk_frozen BK321.out 2
       go_wp2
       go_meet
       case rel => exact ⟨_, (decide (x5_1 < (l1_2.length : Int))), (by first | rfl | (simp; done) | (simp [*]; done)), H', ⟨by have := HK1.out; first | omega | exact Nat.le_refl _⟩, ⟨bK⟩, ⟨bK⟩, ⟨bB⟩⟩
      ·rw [if_neg c11] at H
       have c11b0 : decide (x5_1 < (l0_2.length : Int)) = false := decide_eq_false c11
       clear c11
       (first | rw [c11b0] | (simp only [i64_w, i32_w]; rw [c11b0]) | skip)
       have H' := Aside0.mk H
       clear H
       have hnb15 := NB320_321.out
       have hnc15 := NB321_320.out
       have hcz16_0 : wr.cell? ⟨gb320, 0, none⟩ = some (.int .i64 a0_0) := (blk_cell BK320.out 0).trans rfl
       have hcz16_1 : wr.cell? ⟨gb320, 1, none⟩ = some (.int .i64 a0_1) := (blk_cell BK320.out 1).trans rfl
       have hcz16_2 : wr.cell? ⟨gb320, 2, none⟩ = some (.slice A0_2 l0_2.length c0_2) := (blk_cell BK320.out 2).trans rfl
       have hfz16_0 := blk_frozen BK320.out 0
       have hfz16_1 := blk_frozen BK320.out 1
       have hfz16_2 := blk_frozen BK320.out 2
       go_wp2
       go_meet
       case rel => exact ⟨_, (false), (by first | rfl | (simp; done) | (simp [*]; done)), H', ⟨by have := HK1.out; first | omega | exact Nat.le_refl _⟩, ⟨bK⟩, ⟨bK⟩, ⟨bB⟩⟩
     case rest =>
      clear HC10
      try clear c1
      try clear c2
      try clear p2
      try clear c3
      try clear c3b0
      try clear c3b1
      try clear c4
      try clear c4b0
      try clear c4b1
      try clear c7
      try clear c11
      try clear c11b0
      try clear c12
      try clear c15
      try clear hcz13_0
      try clear hcz13_1
      try clear hcz13_2
      try clear hcz14_0
      try clear hcz14_1
      try clear hcz14_2
      try clear hcz16_0
      try clear hcz16_1
      try clear hcz16_2
      try clear hcz8_0
      try clear hcz8_1
      try clear hcz8_2
      try clear hcz9_0
      try clear hcz9_1
      try clear hcz9_2
      try clear hfz13_0
      try clear hfz13_1
      try clear hfz13_2
      try clear hfz14_0
      try clear hfz14_1
      try clear hfz14_2
      try clear hfz16_0
      try clear hfz16_1
      try clear hfz16_2
      try clear hfz8_0
      try clear hfz8_1
      try clear hfz8_2
      try clear hfz9_0
      try clear hfz9_1
      try clear hfz9_2
      try clear p2
      obtain ⟨kq, x42_9, rfl, HA, HJ9, BK320, BK321, HB⟩ := hcut
      cases kq with
      | zero => exact absurd HA.out (by simp [semigroupref04_Compare.j1])
      | succ kj9 =>
       have H := HA.out
       clear HA
       simp only [semigroupref04_Compare.j1] at H
       by_cases c17 : x42_9 = true
       ·subst c17
        have H1 : (if 0 ≤ x5_1 then (if x5_1 < (l0_2.length : Int) then (if x5_1 < (l1_2.length : Int) then ((semigroupref04_Compare.f kj9 ((rd_T24 l0_2 x5_1).f0) ((rd_T24 l0_2 x5_1).f1) ((rd_T24 l0_2 x5_1).f2) ((rd_T24 l1_2 x5_1).f0) ((rd_T24 l1_2 x5_1).f1) ((rd_T24 l1_2 x5_1).f2)).bind fun t326 => (if t326 = 0 then (semigroupref04_Compare.l0 kj9 (wrap64 (x5_1 + 1)) a0_0 a0_1 l0_2 a1_0 a1_1 l1_2) else (some t326))) else (none)) else (none)) else (none)) = some r := by rw [if_pos rfl] at H; exact H
        clear H
        have H := H1
        clear H1
        by_cases c18 : 0 ≤ x5_1
        ·rw [if_pos c18] at H
         have c18b0 : decide (0 ≤ x5_1) = true := decide_eq_true c18
         clear c18
         by_cases c19 : x5_1 < (l0_2.length : Int)
         ·rw [if_pos c19] at H
          have c19b0 : decide (x5_1 < (l0_2.length : Int)) = true := decide_eq_true c19
          clear c19
          by_cases c20 : x5_1 < (l1_2.length : Int)
          ·rw [if_pos c20] at H
           have c20b0 : decide (x5_1 < (l1_2.length : Int)) = true := decide_eq_true c20
           clear c20
           replace H := Option.bind_eq_some_iff.mp H
           obtain ⟨t326, A210, H⟩ := H
           replace H : (if t326 = 0 then (semigroupref04_Compare.l0 kj9 (wrap64 (x5_1 + 1)) a0_0 a0_1 l0_2 a1_0 a1_1 l1_2) else (some t326)) = some r := H
           have A21 := Aside0.mk A210
           clear A210
           by_cases c22 : t326 = 0
           ·rw [if_pos c22] at H
            have c22b0 : (t326 == 0) = true := beq_iff_eq.mpr c22
            have c22b1 : (t326 != 0) = false := bne_eq_false_iff_eq.mpr c22
            clear c22
            have H' := Aside0.mk H
            clear H
            try go_wp2
            have n0_ := Aside0.mk (blk_drew BK320.out)
            have n1_ := Aside0.mk (blk_drew BK321.out)
            have n2_ := Aside0.mk (below_drew1 HB.out)
            clear BK320
            clear BK321
            clear HB
            have BK320 := n0_
            have BK321 := n1_
            have HB := n2_
            clear n0_ n1_ n2_
            have p324 : 0 ≤ (x5_1 : Int) := of_decide_eq_true (by first | (with_reducible assumption) | assumption)
            have q324 : x5_1 < (l0_2.length : Int) := of_decide_eq_true (by first | (with_reducible assumption) | assumption)
            obtain ⟨ad324, A324_2, c324_2, e324, hx324_0, hx324_1, hx324_2, hl324_2, hi324_2⟩ := at_T24 HR0_2.out x5_1 p324 q324
            have hw324_2 := hx324_2
            have hw324_1 := hx324_1
            have hw324_0 := hx324_0
            cases e324
            replace hx324_0 := (HB.out.cell (World.block_lt_of_cell? w _ hx324_0)).trans hx324_0
            replace hx324_1 := (HB.out.cell (World.block_lt_of_cell? w _ hx324_1)).trans hx324_1
            replace hx324_2 := (HB.out.cell (World.block_lt_of_cell? w _ hx324_2)).trans hx324_2
            have HR324_2 := Aside0.mk hi324_2
            have HC324_2 := Aside0.mk hl324_2
            clear hi324_2 hl324_2
            replace p324 := eq_true p324
            replace q324 := eq_true q324
            have p325 : 0 ≤ (x5_1 : Int) := of_decide_eq_true (by first | (with_reducible assumption) | assumption)
            have q325 : x5_1 < (l1_2.length : Int) := of_decide_eq_true (by first | (with_reducible assumption) | assumption)
            obtain ⟨ad325, A325_2, c325_2, e325, hx325_0, hx325_1, hx325_2, hl325_2, hi325_2⟩ := at_T24 HR1_2.out x5_1 p325 q325
            have hw325_2 := hx325_2
            have hw325_1 := hx325_1
            have hw325_0 := hx325_0
            cases e325
            replace hx325_0 := (HB.out.cell (World.block_lt_of_cell? w _ hx325_0)).trans hx325_0
            replace hx325_1 := (HB.out.cell (World.block_lt_of_cell? w _ hx325_1)).trans hx325_1
            replace hx325_2 := (HB.out.cell (World.block_lt_of_cell? w _ hx325_2)).trans hx325_2
            have HR325_2 := Aside0.mk hi325_2
            have HC325_2 := Aside0.mk hl325_2
            clear hi325_2 hl325_2
            replace p325 := eq_true p325
            replace q325 := eq_true q325
            refine start_ (n := 12) (S := fun w' => w'.cell? ⟨gb320, 0, none⟩ = some (.int .i64 a0_0) ∧ w'.cell? ⟨gb320, 1, none⟩ = some (.int .i64 a0_1) ∧ w'.cell? ⟨gb320, 2, none⟩ = some (.slice (some ad324) l0_2.length c0_2) ∧ w'.cell? ⟨gb321, 0, none⟩ = some (.int .i64 a1_0) ∧ w'.cell? ⟨gb321, 1, none⟩ = some (.int .i64 a1_1) ∧ w'.cell? ⟨gb321, 2, none⟩ = some (.slice (some ad325) l1_2.length c1_2) ∧ w'.cell? (ad324.add ((x5_1).toNat * 3)) = some (.int .i64 ((rd_T24 l0_2 x5_1).f0)) ∧ w'.cell? ⟨(ad324.add ((x5_1).toNat * 3)).block, (ad324.add ((x5_1).toNat * 3)).off + 1, none⟩ = some (.int .i64 ((rd_T24 l0_2 x5_1).f1)) ∧ w'.cell? ⟨(ad324.add ((x5_1).toNat * 3)).block, (ad324.add ((x5_1).toNat * 3)).off + 2, none⟩ = some (.slice A324_2 ((rd_T24 l0_2 x5_1).f2).length c324_2) ∧ w'.cell? (ad325.add ((x5_1).toNat * 3)) = some (.int .i64 ((rd_T24 l1_2 x5_1).f0)) ∧ w'.cell? ⟨(ad325.add ((x5_1).toNat * 3)).block, (ad325.add ((x5_1).toNat * 3)).off + 1, none⟩ = some (.int .i64 ((rd_T24 l1_2 x5_1).f1)) ∧ w'.cell? ⟨(ad325.add ((x5_1).toNat * 3)).block, (ad325.add ((x5_1).toNat * 3)).off + 2, none⟩ = some (.slice A325_2 ((rd_T24 l1_2 x5_1).f2).length c325_2)) (ds := []) #[false, false, false, false, false, false, false, false, false, false, false, false] (by kernel_rfl) rfl rfl ⟨(blk_cell BK320.out 0).trans rfl, (blk_cell BK320.out 1).trans rfl, (blk_cell BK320.out 2).trans rfl, (blk_cell BK321.out 0).trans rfl, (blk_cell BK321.out 1).trans rfl, (blk_cell BK321.out 2).trans rfl, ((HB.out.cell (World.block_lt_of_cell? w _ hw324_0)).trans hw324_0), ((HB.out.cell (World.block_lt_of_cell? w _ hw324_1)).trans hw324_1), ((HB.out.cell (World.block_lt_of_cell? w _ hw324_2)).trans hw324_2), ((HB.out.cell (World.block_lt_of_cell? w _ hw325_0)).trans hw325_0), ((HB.out.cell (World.block_lt_of_cell? w _ hw325_1)).trans hw325_1), ((HB.out.cell (World.block_lt_of_cell? w _ hw325_2)).trans hw325_2)⟩ (fun hHeld => ?_); refine with_tabW semigroupref04_Compare.tab8 semigroupref04_Compare.bits8 (fun HT_ HW_ => ?_)
            generalize wc.drew = w23 at BK320 BK321 HB HR324_2 HR325_2 hx324_0 hx324_1 hx324_2 hx325_0 hx325_1 hx325_2 hHeld ⊢
            refine pure_ (i := 0) (N := some 45) (v := ?_) (a' := ?_) #[true, false, false, false, false, false, false, false, false, false, false, false] rfl rfl (any_of HT_.out (by kernel_rfl)) (fun _ _ _ h => h) (Or.inl ⟨by rfl, ?_⟩) ?_ ?_
            rotate_left
            ·intro w'
             go_simp
             with_reducible rfl
            rotate_left
            ·simp only [Act.put, List.setIfInBounds_toArray, List.set_cons_zero, List.set_cons_succ, i64_w, i32_w]
             rfl
            refine pure_ (i := 2) (N := some 47) (v := ?_) (a' := ?_) #[true, false, true, false, false, false, false, false, false, false, false, false] rfl rfl (any_of HT_.out (by kernel_rfl)) (fun _ _ _ h => h) (Or.inl ⟨by rfl, ?_⟩) ?_ ?_
            rotate_left
            ·intro w'
             go_simp
             with_reducible rfl
            rotate_left
            ·simp only [Act.put, List.setIfInBounds_toArray, List.set_cons_zero, List.set_cons_succ, i64_w, i32_w]
             rfl
            refine pure_ (i := 5) (N := some 50) (v := ?_) (a' := ?_) #[true, false, true, false, false, true, false, false, false, false, false, false] rfl rfl (any_of HT_.out (by kernel_rfl)) (fun _ _ _ h => h) (Or.inl ⟨by rfl, ?_⟩) ?_ ?_
            rotate_left
            ·intro w'
             go_simp
             with_reducible rfl
            rotate_left
            ·simp only [Act.put, List.setIfInBounds_toArray, List.set_cons_zero, List.set_cons_succ, i64_w, i32_w]
             rfl
            refine pure_ (i := 7) (N := some 52) (v := ?_) (a' := ?_) #[true, false, true, false, false, true, false, true, false, false, false, false] rfl rfl (any_of HT_.out (by kernel_rfl)) (fun _ _ _ h => h) (Or.inl ⟨by rfl, ?_⟩) ?_ ?_
            rotate_left
            ·intro w'
             go_simp
             with_reducible rfl
            rotate_left
            ·simp only [Act.put, List.setIfInBounds_toArray, List.set_cons_zero, List.set_cons_succ, i64_w, i32_w]
             rfl
            refine take_ (i := 1) (N := some 46) (v := ?_) (a' := ?_) #[true, true, true, false, false, true, false, true, false, false, false, false] rfl rfl (take_ofW HT_.out HW_.out (by kernel_rfl)) (fun _ _ _ h => h) (Or.inl ⟨by rfl, ?_⟩) hHeld ?_ ?_
            rotate_left
            ·rintro w' ⟨s0, s1, s2, s3, s4, s5, s6, s7, s8, s9, s10, s11⟩
             go_simp
             with_reducible rfl
            rotate_left
            ·simp only [Act.put, List.setIfInBounds_toArray, List.set_cons_zero, List.set_cons_succ, i64_w, i32_w]
             rfl
            refine pure_ (i := 3) (N := some 48) (v := ?_) (a' := ?_) #[true, true, true, true, false, true, false, true, false, false, false, false] rfl rfl (any_of HT_.out (by kernel_rfl)) (fun _ _ _ h => h) (Or.inl ⟨by rfl, ?_⟩) ?_ ?_
            rotate_left
            ·intro w'
             go_simp
             with_reducible rfl
            rotate_left
            ·simp only [Act.put, List.setIfInBounds_toArray, List.set_cons_zero, List.set_cons_succ, i64_w, i32_w]
             rfl
            refine take_ (i := 4) (N := some 49) (v := ?_) (a' := ?_) #[true, true, true, true, true, true, false, true, false, false, false, false] rfl rfl (take_ofW HT_.out HW_.out (by kernel_rfl)) (fun _ _ _ h => h) (Or.inl ⟨by rfl, ?_⟩) hHeld ?_ ?_
            rotate_left
            ·rintro w' ⟨s0, s1, s2, s3, s4, s5, s6, s7, s8, s9, s10, s11⟩
             go_simp
             with_reducible rfl
            rotate_left
            ·simp only [Act.put, List.setIfInBounds_toArray, List.set_cons_zero, List.set_cons_succ, i64_w, i32_w]
             rfl
            refine take_ (i := 6) (N := some 51) (v := ?_) (a' := ?_) #[true, true, true, true, true, true, true, true, false, false, false, false] rfl rfl (take_ofW HT_.out HW_.out (by kernel_rfl)) (fun _ _ _ h => h) (Or.inl ⟨by rfl, ?_⟩) hHeld ?_ ?_
            rotate_left
            ·rintro w' ⟨s0, s1, s2, s3, s4, s5, s6, s7, s8, s9, s10, s11⟩
             go_simp
             with_reducible rfl
            rotate_left
            ·simp only [Act.put, List.setIfInBounds_toArray, List.set_cons_zero, List.set_cons_succ, i64_w, i32_w]
             rfl
            refine pure_ (i := 8) (N := some 53) (v := ?_) (a' := ?_) #[true, true, true, true, true, true, true, true, true, false, false, false] rfl rfl (any_of HT_.out (by kernel_rfl)) (fun _ _ _ h => h) (Or.inl ⟨by rfl, ?_⟩) ?_ ?_
            rotate_left
            ·intro w'
             go_simp
             with_reducible rfl
            rotate_left
            ·simp only [Act.put, List.setIfInBounds_toArray, List.set_cons_zero, List.set_cons_succ, i64_w, i32_w]
             rfl
            refine take_ (i := 9) (N := some 54) (v := ?_) (a' := ?_) #[true, true, true, true, true, true, true, true, true, true, false, false] rfl rfl (take_ofW HT_.out HW_.out (by kernel_rfl)) (fun _ _ _ h => h) (Or.inl ⟨by rfl, ?_⟩) hHeld ?_ ?_
            rotate_left
            ·rintro w' ⟨s0, s1, s2, s3, s4, s5, s6, s7, s8, s9, s10, s11⟩
             go_simp
             with_reducible rfl
            rotate_left
            ·simp only [Act.put, List.setIfInBounds_toArray, List.set_cons_zero, List.set_cons_succ, i64_w, i32_w]
             rfl
            refine one_ (i := 10) (N := some 55) #[true, true, true, true, true, true, true, true, true, true, true, false] rfl rfl (one_of HT_.out (by kernel_rfl)) (by decide) (fun K hK => ?_)
            refine goes_ Try.func24 (by kernel_rfl) rfl #[.agg #[.int .i64 ((rd_T24 l0_2 x5_1).f0), .int .i64 ((rd_T24 l0_2 x5_1).f1), .slice A324_2 ((rd_T24 l0_2 x5_1).f2).length c324_2], .agg #[.int .i64 ((rd_T24 l1_2 x5_1).f0), .int .i64 ((rd_T24 l1_2 x5_1).f1), .slice A325_2 ((rd_T24 l1_2 x5_1).f2).length c325_2]] (by rfl) rfl rfl (by (try simp only [List.map_toArray, List.map_cons, List.map_nil]); first | done | rfl | (simp only [List.length_drop, List.length_take]; rfl)) ?_
            with_reducible refine (ih kj9 (by have := HK1.out; have := HJ9.out; omega) ((rd_T24 l0_2 x5_1).f0) ((rd_T24 l0_2 x5_1).f1) _ _ ((rd_T24 l0_2 x5_1).f2) ((rd_T24 l1_2 x5_1).f0) ((rd_T24 l1_2 x5_1).f1) _ _ ((rd_T24 l1_2 x5_1).f2) t326 _ ?side1 ?side2 ?side3 ?side4 A21.out).mono ?_
            (case side1 => repeat (first | exact (Kd.C_below HR324_2.out HB.out) | (with_reducible refine Kd.C_alloc ?_ _) | (with_reducible refine Kd.C_drewN ?_ _) | (with_reducible refine Kd.C_drew ?_)))
            (case side2 => exact HC324_2.out)
            (case side3 => repeat (first | exact (Kd.C_below HR325_2.out HB.out) | (with_reducible refine Kd.C_alloc ?_ _) | (with_reducible refine Kd.C_drewN ?_ _) | (with_reducible refine Kd.C_drew ?_)))
            (case side4 => exact HC325_2.out)
            rintro e w24 ⟨rfl, hb⟩
            refine ⟨_, rfl, ?_⟩
            have n0_ := Aside0.mk (blk_below (g := gb320) (o := .cells #[.int .i64 a0_0, .int .i64 a0_1, .slice (some ad324) l0_2.length c0_2] 24 (0, 0)) (bK) hb)
            have n1_ := Aside0.mk (blk_below (g := gb321) (o := .cells #[.int .i64 a1_0, .int .i64 a1_1, .slice (some ad325) l1_2.length c1_2] 24 (0, 0)) (bK) hb)
            have n2_ := Aside0.mk (below_step (bB) hb)
            clear BK320
            clear BK321
            clear HB
            have BK320 := n0_
            have BK321 := n1_
            have HB := n2_
            clear n0_ n1_ n2_
            (try clear hb)
            (try clear hb2)
            (try clear hk)
            (try clear hi)
            refine hK.out _ _ ⟨(blk_cell BK320.out 0).trans rfl, (blk_cell BK320.out 1).trans rfl, (blk_cell BK320.out 2).trans rfl, (blk_cell BK321.out 0).trans rfl, (blk_cell BK321.out 1).trans rfl, (blk_cell BK321.out 2).trans rfl, ((HB.out.cell (World.block_lt_of_cell? w _ hw324_0)).trans hw324_0), ((HB.out.cell (World.block_lt_of_cell? w _ hw324_1)).trans hw324_1), ((HB.out.cell (World.block_lt_of_cell? w _ hw324_2)).trans hw324_2), ((HB.out.cell (World.block_lt_of_cell? w _ hw325_0)).trans hw325_0), ((HB.out.cell (World.block_lt_of_cell? w _ hw325_1)).trans hw325_1), ((HB.out.cell (World.block_lt_of_cell? w _ hw325_2)).trans hw325_2)⟩ (fun hHeld => ?_)
            clear hK K
            refine norm_ (a' := ?_) ?_ ?_
            rotate_left
            ·show Act.put _ (some 55) _ = _
             simp only [Act.put, List.setIfInBounds_toArray, List.set_cons_zero, List.set_cons_succ, i64_w, i32_w]
             rfl
            refine pure_ (i := 11) (N := some 6) (v := ?_) (a' := ?_) #[true, true, true, true, true, true, true, true, true, true, true, true] rfl rfl (any_of HT_.out (by kernel_rfl)) (fun _ _ _ h => h) (Or.inl ⟨by rfl, ?_⟩) ?_ ?_
            rotate_left
            ·intro w'
             go_simp
             with_reducible rfl
            rotate_left
            ·simp only [Act.put, List.setIfInBounds_toArray, List.set_cons_zero, List.set_cons_succ, i64_w, i32_w]
             rfl
            refine done_ (done_of HT_.out (by kernel_rfl)) ?_
            try go_wp2
            (first | go_roundg kj9 | ((simp only [add_plain] at *); go_roundg kj9))
            case measure => have := HK1.out; have := HJ9.out; omega
            case rel => exact ⟨(wrap64 (x5_1 + 1)), (by first | rfl | (simp; done) | (simp [*]; done)), H', ⟨by have := HK1.out; have := HJ9.out; omega⟩, ⟨bK⟩, ⟨bK⟩, ⟨bB⟩⟩
           ·rw [if_neg c22] at H
            have c22b0 : (t326 == 0) = false := beq_eq_false_iff_ne.mpr c22
            have c22b1 : (t326 != 0) = true := bne_iff_ne.mpr c22
            obtain rfl := Option.some.inj H
            try go_wp2
            have n0_ := Aside0.mk (blk_drew BK320.out)
            have n1_ := Aside0.mk (blk_drew BK321.out)
            have n2_ := Aside0.mk (below_drew1 HB.out)
            clear BK320
            clear BK321
            clear HB
            have BK320 := n0_
            have BK321 := n1_
            have HB := n2_
            clear n0_ n1_ n2_
            have p324 : 0 ≤ (x5_1 : Int) := of_decide_eq_true (by first | (with_reducible assumption) | assumption)
            have q324 : x5_1 < (l0_2.length : Int) := of_decide_eq_true (by first | (with_reducible assumption) | assumption)
            obtain ⟨ad324, A324_2, c324_2, e324, hx324_0, hx324_1, hx324_2, hl324_2, hi324_2⟩ := at_T24 HR0_2.out x5_1 p324 q324
            have hw324_2 := hx324_2
            have hw324_1 := hx324_1
            have hw324_0 := hx324_0
            cases e324
            replace hx324_0 := (HB.out.cell (World.block_lt_of_cell? w _ hx324_0)).trans hx324_0
            replace hx324_1 := (HB.out.cell (World.block_lt_of_cell? w _ hx324_1)).trans hx324_1
            replace hx324_2 := (HB.out.cell (World.block_lt_of_cell? w _ hx324_2)).trans hx324_2
            have HR324_2 := Aside0.mk hi324_2
            have HC324_2 := Aside0.mk hl324_2
            clear hi324_2 hl324_2
            replace p324 := eq_true p324
            replace q324 := eq_true q324
            have p325 : 0 ≤ (x5_1 : Int) := of_decide_eq_true (by first | (with_reducible assumption) | assumption)
            have q325 : x5_1 < (l1_2.length : Int) := of_decide_eq_true (by first | (with_reducible assumption) | assumption)
            obtain ⟨ad325, A325_2, c325_2, e325, hx325_0, hx325_1, hx325_2, hl325_2, hi325_2⟩ := at_T24 HR1_2.out x5_1 p325 q325
            have hw325_2 := hx325_2
            have hw325_1 := hx325_1
            have hw325_0 := hx325_0
            cases e325
            replace hx325_0 := (HB.out.cell (World.block_lt_of_cell? w _ hx325_0)).trans hx325_0
            replace hx325_1 := (HB.out.cell (World.block_lt_of_cell? w _ hx325_1)).trans hx325_1
            replace hx325_2 := (HB.out.cell (World.block_lt_of_cell? w _ hx325_2)).trans hx325_2
            have HR325_2 := Aside0.mk hi325_2
            have HC325_2 := Aside0.mk hl325_2
            clear hi325_2 hl325_2
            replace p325 := eq_true p325
            replace q325 := eq_true q325
            refine start_ (n := 12) (S := fun w' => w'.cell? ⟨gb320, 0, none⟩ = some (.int .i64 a0_0) ∧ w'.cell? ⟨gb320, 1, none⟩ = some (.int .i64 a0_1) ∧ w'.cell? ⟨gb320, 2, none⟩ = some (.slice (some ad324) l0_2.length c0_2) ∧ w'.cell? ⟨gb321, 0, none⟩ = some (.int .i64 a1_0) ∧ w'.cell? ⟨gb321, 1, none⟩ = some (.int .i64 a1_1) ∧ w'.cell? ⟨gb321, 2, none⟩ = some (.slice (some ad325) l1_2.length c1_2) ∧ w'.cell? (ad324.add ((x5_1).toNat * 3)) = some (.int .i64 ((rd_T24 l0_2 x5_1).f0)) ∧ w'.cell? ⟨(ad324.add ((x5_1).toNat * 3)).block, (ad324.add ((x5_1).toNat * 3)).off + 1, none⟩ = some (.int .i64 ((rd_T24 l0_2 x5_1).f1)) ∧ w'.cell? ⟨(ad324.add ((x5_1).toNat * 3)).block, (ad324.add ((x5_1).toNat * 3)).off + 2, none⟩ = some (.slice A324_2 ((rd_T24 l0_2 x5_1).f2).length c324_2) ∧ w'.cell? (ad325.add ((x5_1).toNat * 3)) = some (.int .i64 ((rd_T24 l1_2 x5_1).f0)) ∧ w'.cell? ⟨(ad325.add ((x5_1).toNat * 3)).block, (ad325.add ((x5_1).toNat * 3)).off + 1, none⟩ = some (.int .i64 ((rd_T24 l1_2 x5_1).f1)) ∧ w'.cell? ⟨(ad325.add ((x5_1).toNat * 3)).block, (ad325.add ((x5_1).toNat * 3)).off + 2, none⟩ = some (.slice A325_2 ((rd_T24 l1_2 x5_1).f2).length c325_2)) (ds := []) #[false, false, false, false, false, false, false, false, false, false, false, false] (by kernel_rfl) rfl rfl ⟨(blk_cell BK320.out 0).trans rfl, (blk_cell BK320.out 1).trans rfl, (blk_cell BK320.out 2).trans rfl, (blk_cell BK321.out 0).trans rfl, (blk_cell BK321.out 1).trans rfl, (blk_cell BK321.out 2).trans rfl, ((HB.out.cell (World.block_lt_of_cell? w _ hw324_0)).trans hw324_0), ((HB.out.cell (World.block_lt_of_cell? w _ hw324_1)).trans hw324_1), ((HB.out.cell (World.block_lt_of_cell? w _ hw324_2)).trans hw324_2), ((HB.out.cell (World.block_lt_of_cell? w _ hw325_0)).trans hw325_0), ((HB.out.cell (World.block_lt_of_cell? w _ hw325_1)).trans hw325_1), ((HB.out.cell (World.block_lt_of_cell? w _ hw325_2)).trans hw325_2)⟩ (fun hHeld => ?_); refine with_tabW semigroupref04_Compare.tab8 semigroupref04_Compare.bits8 (fun HT_ HW_ => ?_)
            generalize wc.drew = w25 at BK320 BK321 HB HR324_2 HR325_2 hx324_0 hx324_1 hx324_2 hx325_0 hx325_1 hx325_2 hHeld ⊢
            refine pure_ (i := 0) (N := some 45) (v := ?_) (a' := ?_) #[true, false, false, false, false, false, false, false, false, false, false, false] rfl rfl (any_of HT_.out (by kernel_rfl)) (fun _ _ _ h => h) (Or.inl ⟨by rfl, ?_⟩) ?_ ?_
            rotate_left
            ·intro w'
             go_simp
             with_reducible rfl
            rotate_left
            ·simp only [Act.put, List.setIfInBounds_toArray, List.set_cons_zero, List.set_cons_succ, i64_w, i32_w]
             rfl
            refine pure_ (i := 2) (N := some 47) (v := ?_) (a' := ?_) #[true, false, true, false, false, false, false, false, false, false, false, false] rfl rfl (any_of HT_.out (by kernel_rfl)) (fun _ _ _ h => h) (Or.inl ⟨by rfl, ?_⟩) ?_ ?_
            rotate_left
            ·intro w'
             go_simp
             with_reducible rfl
            rotate_left
            ·simp only [Act.put, List.setIfInBounds_toArray, List.set_cons_zero, List.set_cons_succ, i64_w, i32_w]
             rfl
            refine pure_ (i := 5) (N := some 50) (v := ?_) (a' := ?_) #[true, false, true, false, false, true, false, false, false, false, false, false] rfl rfl (any_of HT_.out (by kernel_rfl)) (fun _ _ _ h => h) (Or.inl ⟨by rfl, ?_⟩) ?_ ?_
            rotate_left
            ·intro w'
             go_simp
             with_reducible rfl
            rotate_left
            ·simp only [Act.put, List.setIfInBounds_toArray, List.set_cons_zero, List.set_cons_succ, i64_w, i32_w]
             rfl
            refine pure_ (i := 7) (N := some 52) (v := ?_) (a' := ?_) #[true, false, true, false, false, true, false, true, false, false, false, false] rfl rfl (any_of HT_.out (by kernel_rfl)) (fun _ _ _ h => h) (Or.inl ⟨by rfl, ?_⟩) ?_ ?_
            rotate_left
            ·intro w'
             go_simp
             with_reducible rfl
            rotate_left
            ·simp only [Act.put, List.setIfInBounds_toArray, List.set_cons_zero, List.set_cons_succ, i64_w, i32_w]
             rfl
            refine take_ (i := 1) (N := some 46) (v := ?_) (a' := ?_) #[true, true, true, false, false, true, false, true, false, false, false, false] rfl rfl (take_ofW HT_.out HW_.out (by kernel_rfl)) (fun _ _ _ h => h) (Or.inl ⟨by rfl, ?_⟩) hHeld ?_ ?_
            rotate_left
            ·rintro w' ⟨s0, s1, s2, s3, s4, s5, s6, s7, s8, s9, s10, s11⟩
             go_simp
             with_reducible rfl
            rotate_left
            ·simp only [Act.put, List.setIfInBounds_toArray, List.set_cons_zero, List.set_cons_succ, i64_w, i32_w]
             rfl
            refine pure_ (i := 3) (N := some 48) (v := ?_) (a' := ?_) #[true, true, true, true, false, true, false, true, false, false, false, false] rfl rfl (any_of HT_.out (by kernel_rfl)) (fun _ _ _ h => h) (Or.inl ⟨by rfl, ?_⟩) ?_ ?_
            rotate_left
            ·intro w'
             go_simp
             with_reducible rfl
            rotate_left
            ·simp only [Act.put, List.setIfInBounds_toArray, List.set_cons_zero, List.set_cons_succ, i64_w, i32_w]
             rfl
            refine take_ (i := 4) (N := some 49) (v := ?_) (a' := ?_) #[true, true, true, true, true, true, false, true, false, false, false, false] rfl rfl (take_ofW HT_.out HW_.out (by kernel_rfl)) (fun _ _ _ h => h) (Or.inl ⟨by rfl, ?_⟩) hHeld ?_ ?_
            rotate_left
            ·rintro w' ⟨s0, s1, s2, s3, s4, s5, s6, s7, s8, s9, s10, s11⟩
             go_simp
             with_reducible rfl
            rotate_left
            ·simp only [Act.put, List.setIfInBounds_toArray, List.set_cons_zero, List.set_cons_succ, i64_w, i32_w]
             rfl
            refine take_ (i := 6) (N := some 51) (v := ?_) (a' := ?_) #[true, true, true, true, true, true, true, true, false, false, false, false] rfl rfl (take_ofW HT_.out HW_.out (by kernel_rfl)) (fun _ _ _ h => h) (Or.inl ⟨by rfl, ?_⟩) hHeld ?_ ?_
            rotate_left
            ·rintro w' ⟨s0, s1, s2, s3, s4, s5, s6, s7, s8, s9, s10, s11⟩
             go_simp
             with_reducible rfl
            rotate_left
            ·simp only [Act.put, List.setIfInBounds_toArray, List.set_cons_zero, List.set_cons_succ, i64_w, i32_w]
             rfl
            refine pure_ (i := 8) (N := some 53) (v := ?_) (a' := ?_) #[true, true, true, true, true, true, true, true, true, false, false, false] rfl rfl (any_of HT_.out (by kernel_rfl)) (fun _ _ _ h => h) (Or.inl ⟨by rfl, ?_⟩) ?_ ?_
            rotate_left
            ·intro w'
             go_simp
             with_reducible rfl
            rotate_left
            ·simp only [Act.put, List.setIfInBounds_toArray, List.set_cons_zero, List.set_cons_succ, i64_w, i32_w]
             rfl
            refine take_ (i := 9) (N := some 54) (v := ?_) (a' := ?_) #[true, true, true, true, true, true, true, true, true, true, false, false] rfl rfl (take_ofW HT_.out HW_.out (by kernel_rfl)) (fun _ _ _ h => h) (Or.inl ⟨by rfl, ?_⟩) hHeld ?_ ?_
            rotate_left
            ·rintro w' ⟨s0, s1, s2, s3, s4, s5, s6, s7, s8, s9, s10, s11⟩
             go_simp
             with_reducible rfl
            rotate_left
            ·simp only [Act.put, List.setIfInBounds_toArray, List.set_cons_zero, List.set_cons_succ, i64_w, i32_w]
             rfl
            refine one_ (i := 10) (N := some 55) #[true, true, true, true, true, true, true, true, true, true, true, false] rfl rfl (one_of HT_.out (by kernel_rfl)) (by decide) (fun K hK => ?_)
            refine goes_ Try.func24 (by kernel_rfl) rfl #[.agg #[.int .i64 ((rd_T24 l0_2 x5_1).f0), .int .i64 ((rd_T24 l0_2 x5_1).f1), .slice A324_2 ((rd_T24 l0_2 x5_1).f2).length c324_2], .agg #[.int .i64 ((rd_T24 l1_2 x5_1).f0), .int .i64 ((rd_T24 l1_2 x5_1).f1), .slice A325_2 ((rd_T24 l1_2 x5_1).f2).length c325_2]] (by rfl) rfl rfl (by (try simp only [List.map_toArray, List.map_cons, List.map_nil]); first | done | rfl | (simp only [List.length_drop, List.length_take]; rfl)) ?_
            with_reducible refine (ih kj9 (by have := HK1.out; have := HJ9.out; omega) ((rd_T24 l0_2 x5_1).f0) ((rd_T24 l0_2 x5_1).f1) _ _ ((rd_T24 l0_2 x5_1).f2) ((rd_T24 l1_2 x5_1).f0) ((rd_T24 l1_2 x5_1).f1) _ _ ((rd_T24 l1_2 x5_1).f2) t326 _ ?side1 ?side2 ?side3 ?side4 A21.out).mono ?_
            (case side1 => repeat (first | exact (Kd.C_below HR324_2.out HB.out) | (with_reducible refine Kd.C_alloc ?_ _) | (with_reducible refine Kd.C_drewN ?_ _) | (with_reducible refine Kd.C_drew ?_)))
            (case side2 => exact HC324_2.out)
            (case side3 => repeat (first | exact (Kd.C_below HR325_2.out HB.out) | (with_reducible refine Kd.C_alloc ?_ _) | (with_reducible refine Kd.C_drewN ?_ _) | (with_reducible refine Kd.C_drew ?_)))
            (case side4 => exact HC325_2.out)
            rintro e w26 ⟨rfl, hb⟩
            refine ⟨_, rfl, ?_⟩
            have n0_ := Aside0.mk (blk_below (g := gb320) (o := .cells #[.int .i64 a0_0, .int .i64 a0_1, .slice (some ad324) l0_2.length c0_2] 24 (0, 0)) (bK) hb)
            have n1_ := Aside0.mk (blk_below (g := gb321) (o := .cells #[.int .i64 a1_0, .int .i64 a1_1, .slice (some ad325) l1_2.length c1_2] 24 (0, 0)) (bK) hb)
            have n2_ := Aside0.mk (below_step (bB) hb)
            clear BK320
            clear BK321
            clear HB
            have BK320 := n0_
            have BK321 := n1_
            have HB := n2_
            clear n0_ n1_ n2_
            (try clear hb)
            (try clear hb2)
            (try clear hk)
            (try clear hi)
            refine hK.out _ _ ⟨(blk_cell BK320.out 0).trans rfl, (blk_cell BK320.out 1).trans rfl, (blk_cell BK320.out 2).trans rfl, (blk_cell BK321.out 0).trans rfl, (blk_cell BK321.out 1).trans rfl, (blk_cell BK321.out 2).trans rfl, ((HB.out.cell (World.block_lt_of_cell? w _ hw324_0)).trans hw324_0), ((HB.out.cell (World.block_lt_of_cell? w _ hw324_1)).trans hw324_1), ((HB.out.cell (World.block_lt_of_cell? w _ hw324_2)).trans hw324_2), ((HB.out.cell (World.block_lt_of_cell? w _ hw325_0)).trans hw325_0), ((HB.out.cell (World.block_lt_of_cell? w _ hw325_1)).trans hw325_1), ((HB.out.cell (World.block_lt_of_cell? w _ hw325_2)).trans hw325_2)⟩ (fun hHeld => ?_)
            clear hK K
            refine norm_ (a' := ?_) ?_ ?_
            rotate_left
            ·show Act.put _ (some 55) _ = _
             simp only [Act.put, List.setIfInBounds_toArray, List.set_cons_zero, List.set_cons_succ, i64_w, i32_w]
             rfl
            refine pure_ (i := 11) (N := some 6) (v := ?_) (a' := ?_) #[true, true, true, true, true, true, true, true, true, true, true, true] rfl rfl (any_of HT_.out (by kernel_rfl)) (fun _ _ _ h => h) (Or.inl ⟨by rfl, ?_⟩) ?_ ?_
            rotate_left
            ·intro w'
             go_simp
             with_reducible rfl
            rotate_left
            ·simp only [Act.put, List.setIfInBounds_toArray, List.set_cons_zero, List.set_cons_succ, i64_w, i32_w]
             rfl
            refine done_ (done_of HT_.out (by kernel_rfl)) ?_
            try go_wp2
            go_ret
            exact ⟨by first | rfl | (simp [errW_none, errW_some] <;> rfl) | (simp [*, errW_none, errW_some] <;> rfl), bB⟩
          ·rw [if_neg c20] at H
           exact absurd H (by simp)
         ·rw [if_neg c19] at H
          exact absurd H (by simp)
        ·rw [if_neg c18] at H
         exact absurd H (by simp)
       ·replace c17 := Bool.eq_false_iff.mpr c17
        subst c17
        have H1 : (if (l0_2.length : Int) = (l1_2.length : Int) then (some 0) else ((semigroupref04_sign.f (decide ((l0_2.length : Int) < (l1_2.length : Int)))).bind fun t327 => (some t327))) = some r := by rw [if_neg (show ¬ (false = true) by decide)] at H; exact H
        clear H
        have H := H1
        clear H1
        by_cases c27 : (l0_2.length : Int) = (l1_2.length : Int)
        ·rw [if_pos c27] at H
         have c27b0 : ((l0_2.length : Int) == (l1_2.length : Int)) = true := beq_iff_eq.mpr c27
         have c27b1 : ((l0_2.length : Int) != (l1_2.length : Int)) = false := bne_eq_false_iff_eq.mpr c27
         have c27b2 : (l0_2.length == l1_2.length) = true := by first | simpa using c27 | (simp at c27 ⊢; omega)
         clear c27
         obtain rfl := Option.some.inj H
         have hnb28 := NB320_321.out
         have hnc28 := NB321_320.out
         have hcz29_0 : wc.cell? ⟨gb320, 0, none⟩ = some (.int .i64 a0_0) := (blk_cell BK320.out 0).trans rfl
         have hcz29_1 : wc.cell? ⟨gb320, 1, none⟩ = some (.int .i64 a0_1) := (blk_cell BK320.out 1).trans rfl
         have hcz29_2 : wc.cell? ⟨gb320, 2, none⟩ = some (.slice A0_2 l0_2.length c0_2) := (blk_cell BK320.out 2).trans rfl
         have hfz29_0 := blk_frozen BK320.out 0
         have hfz29_1 := blk_frozen BK320.out 1
         have hfz29_2 := blk_frozen BK320.out 2
         have hcz30_0 : wc.cell? ⟨gb321, 0, none⟩ = some (.int .i64 a1_0) := (blk_cell BK321.out 0).trans rfl
         have hcz30_1 : wc.cell? ⟨gb321, 1, none⟩ = some (.int .i64 a1_1) := (blk_cell BK321.out 1).trans rfl
         have hcz30_2 : wc.cell? ⟨gb321, 2, none⟩ = some (.slice A1_2 l1_2.length c1_2) := (blk_cell BK321.out 2).trans rfl
         have hfz30_0 := blk_frozen BK321.out 0
         have hfz30_1 := blk_frozen BK321.out 1
         have hfz30_2 := blk_frozen BK321.out 2
         go_wp2
         go_ret
         exact ⟨by first | rfl | (simp [errW_none, errW_some] <;> rfl) | (simp [*, errW_none, errW_some] <;> rfl), bB⟩
        ·rw [if_neg c27] at H
         have c27b0 : ((l0_2.length : Int) == (l1_2.length : Int)) = false := beq_eq_false_iff_ne.mpr c27
         have c27b1 : ((l0_2.length : Int) != (l1_2.length : Int)) = true := bne_iff_ne.mpr c27
         have c27b2 : (l0_2.length == l1_2.length) = false := by first | simpa using c27 | (simp at c27 ⊢; omega)
         replace H := Option.bind_eq_some_iff.mp H
         obtain ⟨t327, A310, H⟩ := H
         replace H : (some t327) = some r := H
         have A31 := Aside0.mk A310
         clear A310
         obtain rfl := Option.some.inj H
         have hnb32 := NB320_321.out
         have hnc32 := NB321_320.out
         have hcz33_0 : wc.cell? ⟨gb320, 0, none⟩ = some (.int .i64 a0_0) := (blk_cell BK320.out 0).trans rfl
         have hcz33_1 : wc.cell? ⟨gb320, 1, none⟩ = some (.int .i64 a0_1) := (blk_cell BK320.out 1).trans rfl
         have hcz33_2 : wc.cell? ⟨gb320, 2, none⟩ = some (.slice A0_2 l0_2.length c0_2) := (blk_cell BK320.out 2).trans rfl
         have hfz33_0 := blk_frozen BK320.out 0
         have hfz33_1 := blk_frozen BK320.out 1
         have hfz33_2 := blk_frozen BK320.out 2
         have hcz34_0 : wc.cell? ⟨gb321, 0, none⟩ = some (.int .i64 a1_0) := (blk_cell BK321.out 0).trans rfl
         have hcz34_1 : wc.cell? ⟨gb321, 1, none⟩ = some (.int .i64 a1_1) := (blk_cell BK321.out 1).trans rfl
         have hcz34_2 : wc.cell? ⟨gb321, 2, none⟩ = some (.slice A1_2 l1_2.length c1_2) := (blk_cell BK321.out 2).trans rfl
         have hfz34_0 := blk_frozen BK321.out 0
         have hfz34_1 := blk_frozen BK321.out 1
         have hfz34_2 := blk_frozen BK321.out 2
         go_wp2_with (first | ((with_reducible refine gate_callee (f := 53) rfl ?_); refine goesL_ (some 73) rfl rfl Try.func53 (by kernel_rfl) rfl #[.bool (decide ((l0_2.length : Int) < (l1_2.length : Int)))] rfl (by (try simp only [List.map_toArray, List.map_cons, List.map_nil]); first | done | rfl | (simp only [List.length_drop, List.length_take]; rfl) | (simp only [Int.ofNat_lt, Int.ofNat_le]; rfl)) ?_; (with_reducible refine (semigroupref04_sign.calls (decide ((l0_2.length : Int) < (l1_2.length : Int))) t327 _ A31.out).mono ?_); rintro e w' ⟨rfl, ⟨nd, rfl⟩⟩; refine ⟨_, rfl, ?_⟩))
         go_ret
         exact ⟨by first | rfl | (simp [errW_none, errW_some] <;> rfl) | (simp [*, errW_none, errW_some] <;> rfl), bB⟩
  ·rw [if_neg c4] at H
   have c4b0 : (a0_1 == a1_1) = false := beq_eq_false_iff_ne.mpr c4
   have c4b1 : (a0_1 != a1_1) = true := bne_iff_ne.mpr c4
   replace H := Option.bind_eq_some_iff.mp H
   obtain ⟨t322, A350, H⟩ := H
   replace H : (some t322) = some r := H
   have A35 := Aside0.mk A350
   clear A350
   obtain rfl := Option.some.inj H
   go_enter Try.func24, Try.ntmps24
   go_wp2_with (first | ((with_reducible refine gate_dst (N := 2) rfl ?_); (try (refine gate_guard (by rfl) ?_; dsimp only)); refine box_event ?hg (N := 2) ?hd (cs := #[.int .i64 a0_0, .int .i64 a0_1, .slice A0_2 l0_2.length c0_2]) (t := 24) ?hr ?_; (case hd => rfl); (case hg => rfl); (case hr => first | (go_simp; done) | (go_simp; rfl)); intro gb320 hg w36 hbox hb; have n0_ := Aside0.mk (below_step (bB) hb); have n1_ := Aside0.mk (hbox); have n2_ := Aside0.mk ((by rw [hg]; exact (below_size (bB)) : w.heap.size ≤ gb320)); have n3_ := Aside0.mk ((by rw [hg]; exact (below_size (bB)) : w.heap.size ≤ gb320)); clear HB; have HB := n0_; have BK320 := n1_; have GW320 := n2_; have GE320 := n3_; clear n0_ n1_ n2_ n3_; clear hb hbox hg) | ((with_reducible refine gate_dst (N := 3) rfl ?_); (try (refine gate_guard (by rfl) ?_; dsimp only)); refine box_event ?hg (N := 3) ?hd (cs := #[.int .i64 a1_0, .int .i64 a1_1, .slice A1_2 l1_2.length c1_2]) (t := 24) ?hr ?_; (case hd => rfl); (case hg => rfl); (case hr => first | (go_simp; done) | (go_simp; rfl)); intro gb321 hg w37 hbox hb; have n0_ := Aside0.mk (blk_below (g := gb320) (o := .cells #[.int .i64 a0_0, .int .i64 a0_1, .slice A0_2 l0_2.length c0_2] 24 (0, 0)) (bK) hb); have n1_ := Aside0.mk (below_step (bB) hb); have n2_ := Aside0.mk (hbox); have n3_ := Aside0.mk ((by rw [hg]; exact (below_size (bB)) : w.heap.size ≤ gb321)); have n4_ := Aside0.mk ((by rw [hg]; exact (below_size (bB)) : w.heap.size ≤ gb321)); have n5_ := Aside0.mk ((by rw [hg]; exact Nat.ne_of_lt (blk_lt (g := gb320) (o := .cells #[.int .i64 a0_0, .int .i64 a0_1, .slice A0_2 l0_2.length c0_2] 24 (0, 0)) (bK)) : gb320 ≠ gb321)); have n6_ := Aside0.mk ((by rw [hg]; exact Nat.ne_of_gt (blk_lt (g := gb320) (o := .cells #[.int .i64 a0_0, .int .i64 a0_1, .slice A0_2 l0_2.length c0_2] 24 (0, 0)) (bK)) : gb321 ≠ gb320)); clear BK320; clear HB; have BK320 := n0_; have HB := n1_; have BK321 := n2_; have GW321 := n3_; have GE321 := n4_; have NB320_321 := n5_; have NB321_320 := n6_; clear n0_ n1_ n2_ n3_ n4_ n5_ n6_; clear hb hbox hg; have hnb38 := NB320_321.out; have hnc38 := NB321_320.out; have hcz39_0 : w37.cell? ⟨gb320, 0, none⟩ = some (.int .i64 a0_0) := (blk_cell BK320.out 0).trans rfl; have hcz39_1 : w37.cell? ⟨gb320, 1, none⟩ = some (.int .i64 a0_1) := (blk_cell BK320.out 1).trans rfl; have hcz39_2 : w37.cell? ⟨gb320, 2, none⟩ = some (.slice A0_2 l0_2.length c0_2) := (blk_cell BK320.out 2).trans rfl; have hfz39_0 := blk_frozen BK320.out 0; have hfz39_1 := blk_frozen BK320.out 1; have hfz39_2 := blk_frozen BK320.out 2; have hcz40_0 : w37.cell? ⟨gb321, 0, none⟩ = some (.int .i64 a1_0) := (blk_cell BK321.out 0).trans rfl; have hcz40_1 : w37.cell? ⟨gb321, 1, none⟩ = some (.int .i64 a1_1) := (blk_cell BK321.out 1).trans rfl; have hcz40_2 : w37.cell? ⟨gb321, 2, none⟩ = some (.slice A1_2 l1_2.length c1_2) := (blk_cell BK321.out 2).trans rfl; have hfz40_0 := blk_frozen BK321.out 0; have hfz40_1 := blk_frozen BK321.out 1; have hfz40_2 := blk_frozen BK321.out 2) | ((with_reducible refine gate_callee (f := 53) rfl ?_); refine goesL_ (some 30) rfl rfl Try.func53 (by kernel_rfl) rfl #[.bool (decide (a0_1 < a1_1))] rfl (by (try simp only [List.map_toArray, List.map_cons, List.map_nil]); first | done | rfl | (simp only [List.length_drop, List.length_take]; rfl) | (simp only [Int.ofNat_lt, Int.ofNat_le]; rfl)) ?_; (with_reducible refine (semigroupref04_sign.calls (decide (a0_1 < a1_1)) t322 _ A35.out).mono ?_); rintro e w' ⟨rfl, ⟨nd, rfl⟩⟩; refine ⟨_, rfl, ?_⟩))
   go_ret
   exact ⟨by first | rfl | (simp [errW_none, errW_some] <;> rfl) | (simp [*, errW_none, errW_some] <;> rfl), bB⟩
 ·rw [if_neg c3] at H
  have c3b0 : (a0_0 == a1_0) = false := beq_eq_false_iff_ne.mpr c3
  have c3b1 : (a0_0 != a1_0) = true := bne_iff_ne.mpr c3
  replace H := Option.bind_eq_some_iff.mp H
  obtain ⟨t323, A410, H⟩ := H
  replace H : (some t323) = some r := H
  have A41 := Aside0.mk A410
  clear A410
  obtain rfl := Option.some.inj H
  go_enter Try.func24, Try.ntmps24
  go_wp2_with (first | ((with_reducible refine gate_dst (N := 2) rfl ?_); (try (refine gate_guard (by rfl) ?_; dsimp only)); refine box_event ?hg (N := 2) ?hd (cs := #[.int .i64 a0_0, .int .i64 a0_1, .slice A0_2 l0_2.length c0_2]) (t := 24) ?hr ?_; (case hd => rfl); (case hg => rfl); (case hr => first | (go_simp; done) | (go_simp; rfl)); intro gb320 hg w42 hbox hb; have n0_ := Aside0.mk (below_step (bB) hb); have n1_ := Aside0.mk (hbox); have n2_ := Aside0.mk ((by rw [hg]; exact (below_size (bB)) : w.heap.size ≤ gb320)); have n3_ := Aside0.mk ((by rw [hg]; exact (below_size (bB)) : w.heap.size ≤ gb320)); clear HB; have HB := n0_; have BK320 := n1_; have GW320 := n2_; have GE320 := n3_; clear n0_ n1_ n2_ n3_; clear hb hbox hg) | ((with_reducible refine gate_dst (N := 3) rfl ?_); (try (refine gate_guard (by rfl) ?_; dsimp only)); refine box_event ?hg (N := 3) ?hd (cs := #[.int .i64 a1_0, .int .i64 a1_1, .slice A1_2 l1_2.length c1_2]) (t := 24) ?hr ?_; (case hd => rfl); (case hg => rfl); (case hr => first | (go_simp; done) | (go_simp; rfl)); intro gb321 hg w43 hbox hb; have n0_ := Aside0.mk (blk_below (g := gb320) (o := .cells #[.int .i64 a0_0, .int .i64 a0_1, .slice A0_2 l0_2.length c0_2] 24 (0, 0)) (bK) hb); have n1_ := Aside0.mk (below_step (bB) hb); have n2_ := Aside0.mk (hbox); have n3_ := Aside0.mk ((by rw [hg]; exact (below_size (bB)) : w.heap.size ≤ gb321)); have n4_ := Aside0.mk ((by rw [hg]; exact (below_size (bB)) : w.heap.size ≤ gb321)); have n5_ := Aside0.mk ((by rw [hg]; exact Nat.ne_of_lt (blk_lt (g := gb320) (o := .cells #[.int .i64 a0_0, .int .i64 a0_1, .slice A0_2 l0_2.length c0_2] 24 (0, 0)) (bK)) : gb320 ≠ gb321)); have n6_ := Aside0.mk ((by rw [hg]; exact Nat.ne_of_gt (blk_lt (g := gb320) (o := .cells #[.int .i64 a0_0, .int .i64 a0_1, .slice A0_2 l0_2.length c0_2] 24 (0, 0)) (bK)) : gb321 ≠ gb320)); clear BK320; clear HB; have BK320 := n0_; have HB := n1_; have BK321 := n2_; have GW321 := n3_; have GE321 := n4_; have NB320_321 := n5_; have NB321_320 := n6_; clear n0_ n1_ n2_ n3_ n4_ n5_ n6_; clear hb hbox hg; have hnb44 := NB320_321.out; have hnc44 := NB321_320.out; have hcz45_0 : w43.cell? ⟨gb320, 0, none⟩ = some (.int .i64 a0_0) := (blk_cell BK320.out 0).trans rfl; have hcz45_1 : w43.cell? ⟨gb320, 1, none⟩ = some (.int .i64 a0_1) := (blk_cell BK320.out 1).trans rfl; have hcz45_2 : w43.cell? ⟨gb320, 2, none⟩ = some (.slice A0_2 l0_2.length c0_2) := (blk_cell BK320.out 2).trans rfl; have hfz45_0 := blk_frozen BK320.out 0; have hfz45_1 := blk_frozen BK320.out 1; have hfz45_2 := blk_frozen BK320.out 2; have hcz46_0 : w43.cell? ⟨gb321, 0, none⟩ = some (.int .i64 a1_0) := (blk_cell BK321.out 0).trans rfl; have hcz46_1 : w43.cell? ⟨gb321, 1, none⟩ = some (.int .i64 a1_1) := (blk_cell BK321.out 1).trans rfl; have hcz46_2 : w43.cell? ⟨gb321, 2, none⟩ = some (.slice A1_2 l1_2.length c1_2) := (blk_cell BK321.out 2).trans rfl; have hfz46_0 := blk_frozen BK321.out 0; have hfz46_1 := blk_frozen BK321.out 1; have hfz46_2 := blk_frozen BK321.out 2) | ((with_reducible refine gate_callee (f := 53) rfl ?_); refine goesL_ (some 18) rfl rfl Try.func53 (by kernel_rfl) rfl #[.bool (decide (a0_0 < a1_0))] rfl (by (try simp only [List.map_toArray, List.map_cons, List.map_nil]); first | done | rfl | (simp only [List.length_drop, List.length_take]; rfl) | (simp only [Int.ofNat_lt, Int.ofNat_le]; rfl)) ?_; (with_reducible refine (semigroupref04_sign.calls (decide (a0_0 < a1_0)) t323 _ A41.out).mono ?_); rintro e w' ⟨rfl, ⟨nd, rfl⟩⟩; refine ⟨_, rfl, ?_⟩))
  go_ret
  exact ⟨by first | rfl | (simp [errW_none, errW_some] <;> rfl) | (simp [*, errW_none, errW_some] <;> rfl), bB⟩
end Go.Proofs.Ytjofkebiacaciaa.PAll
end
section
namespace Go.Proofs.Ytjofkebiacaciaa.PAll
open Go.RowKit Go.Proofs.YtjofkebiacaciaaW.PrintWords Go.Proofs.YtjofkebiacaciaaW.PrintLast Go.Proofs.YtjofkebiacaciaaW.PrintMore
attribute [local go_sem] max2_int min2_int max_two min_two max_three min_three max_four min_four
set_option linter.unusedVariables false
set_option linter.unusedSimpArgs false
def semigrouplaw04_same.f (k : Nat) (a0_0 : Int) (a0_1 : Int) (l0_2 : List (S24)) (a1_0 : Int) (a1_1 : Int) (l1_2 : List (S24)) : Option (Bool) := (semigroupref04_Compare.f k a0_0 a0_1 l0_2 a1_0 a1_1 l1_2).bind fun t330 => (some (t330 == 0))
theorem semigrouplaw04_same.mono : ∀ a0 a1 a2 a3 a4 a5 k, LeO (semigrouplaw04_same.f k a0 a1 a2 a3 a4 a5) (semigrouplaw04_same.f (k + 1) a0 a1 a2 a3 a4 a5) := by
 intro a0 a1 a2 a3 a4 a5 k
 unfold semigrouplaw04_same.f
 repeat' first
   | (with_reducible exact semigroupref04_Compare.mono _ _ _ _ _ _ _)
   | (with_reducible exact LeO.refl _)
   | (with_reducible exact LeO.none _)
   | (with_reducible refine LeO.ite ?_ ?_)
   | (with_reducible refine LeO.bind ?_ (fun _ => ?_))
   | exact semigroupref04_Compare.mono _ _ _ _ _ _ _
   | exact LeO.none _
   | refine LeO.ite ?_ ?_
   | refine LeO.bind ?_ (fun _ => ?_)
set_option maxHeartbeats 8000000 in
set_option maxRecDepth 100000 in
theorem semigrouplaw04_same.calls (k : Nat) (a0_0 : Int) (a0_1 : Int) (A0_2 : Option Addr) (c0_2 : Nat) (l0_2 : List (S24)) (a1_0 : Int) (a1_1 : Int) (A1_2 : Option Addr) (c1_2 : Nat) (l1_2 : List (S24)) (r : Bool) (w : World) (hr0_2 : Kd.C k24 w A0_2 l0_2.length l0_2) (hc0_2 : l0_2.length ≤ c0_2) (hr1_2 : Kd.C k24 w A1_2 l1_2.length l1_2) (hc1_2 : l1_2.length ≤ c1_2) (h : semigrouplaw04_same.f k a0_0 a0_1 l0_2 a1_0 a1_1 l1_2 = some r) :
  Calls Try.prog 22 #[.agg #[.int .i64 a0_0, .int .i64 a0_1, .slice A0_2 l0_2.length c0_2], .agg #[.int .i64 a1_0, .int .i64 a1_1, .slice A1_2 l1_2.length c1_2]] w fun e w' => e = .returned (.bool r) ∧ Below w.heap.size w w' := by
 have hu24 := Try.underlying24
 have HR0_2 := Aside0.mk hr0_2
 have HC0_2 := Aside0.mk hc0_2
 clear hr0_2 hc0_2
 have HR1_2 := Aside0.mk hr1_2
 have HC1_2 := Aside0.mk hc1_2
 clear hr1_2 hc1_2
 have HB := Aside0.mk (Below.refl w.heap.size w)
 have H : ((semigroupref04_Compare.f k a0_0 a0_1 l0_2 a1_0 a1_1 l1_2).bind fun t330 => (some (t330 == 0))) = some r := h
 clear h
 replace H := Option.bind_eq_some_iff.mp H
 obtain ⟨t330, A30, H⟩ := H
 replace H : (some (t330 == 0)) = some r := H
 have A3 := Aside0.mk A30
 clear A30
 obtain rfl := Option.some.inj H
 go_enter Try.func22, Try.ntmps22
 go_wp2_with (first | ((with_reducible refine gate_dst (N := 2) rfl ?_); refine box_event ?hg (N := 2) ?hd (cs := #[.int .i64 a0_0, .int .i64 a0_1, .slice A0_2 l0_2.length c0_2]) (t := 24) ?hr ?_; (case hd => rfl); (case hg => rfl); (case hr => first | (go_simp; done) | (go_simp; rfl)); intro gb328 hg w4 hbox hb; have n0_ := Aside0.mk (below_step (bB) hb); have n1_ := Aside0.mk (hbox); have n2_ := Aside0.mk ((by rw [hg]; exact (below_size (bB)) : w.heap.size ≤ gb328)); have n3_ := Aside0.mk ((by rw [hg]; exact (below_size (bB)) : w.heap.size ≤ gb328)); clear HB; have HB := n0_; have BK328 := n1_; have GW328 := n2_; have GE328 := n3_; clear n0_ n1_ n2_ n3_; clear hb hbox hg) | ((with_reducible refine gate_dst (N := 3) rfl ?_); refine box_event ?hg (N := 3) ?hd (cs := #[.int .i64 a1_0, .int .i64 a1_1, .slice A1_2 l1_2.length c1_2]) (t := 24) ?hr ?_; (case hd => rfl); (case hg => rfl); (case hr => first | (go_simp; done) | (go_simp; rfl)); intro gb329 hg w5 hbox hb; have n0_ := Aside0.mk (blk_below (g := gb328) (o := .cells #[.int .i64 a0_0, .int .i64 a0_1, .slice A0_2 l0_2.length c0_2] 24 (0, 0)) (bK) hb); have n1_ := Aside0.mk (below_step (bB) hb); have n2_ := Aside0.mk (hbox); have n3_ := Aside0.mk ((by rw [hg]; exact (below_size (bB)) : w.heap.size ≤ gb329)); have n4_ := Aside0.mk ((by rw [hg]; exact (below_size (bB)) : w.heap.size ≤ gb329)); have n5_ := Aside0.mk ((by rw [hg]; exact Nat.ne_of_lt (blk_lt (g := gb328) (o := .cells #[.int .i64 a0_0, .int .i64 a0_1, .slice A0_2 l0_2.length c0_2] 24 (0, 0)) (bK)) : gb328 ≠ gb329)); have n6_ := Aside0.mk ((by rw [hg]; exact Nat.ne_of_gt (blk_lt (g := gb328) (o := .cells #[.int .i64 a0_0, .int .i64 a0_1, .slice A0_2 l0_2.length c0_2] 24 (0, 0)) (bK)) : gb329 ≠ gb328)); clear BK328; clear HB; have BK328 := n0_; have HB := n1_; have BK329 := n2_; have GW329 := n3_; have GE329 := n4_; have NB328_329 := n5_; have NB329_328 := n6_; clear n0_ n1_ n2_ n3_ n4_ n5_ n6_; clear hb hbox hg; have hnb6 := NB328_329.out; have hnc6 := NB329_328.out; have hcz7_0 : w5.cell? ⟨gb328, 0, none⟩ = some (.int .i64 a0_0) := (blk_cell BK328.out 0).trans rfl; have hcz7_1 : w5.cell? ⟨gb328, 1, none⟩ = some (.int .i64 a0_1) := (blk_cell BK328.out 1).trans rfl; have hcz7_2 : w5.cell? ⟨gb328, 2, none⟩ = some (.slice A0_2 l0_2.length c0_2) := (blk_cell BK328.out 2).trans rfl; have hfz7_0 := blk_frozen BK328.out 0; have hfz7_1 := blk_frozen BK328.out 1; have hfz7_2 := blk_frozen BK328.out 2; have hcz8_0 : w5.cell? ⟨gb329, 0, none⟩ = some (.int .i64 a1_0) := (blk_cell BK329.out 0).trans rfl; have hcz8_1 : w5.cell? ⟨gb329, 1, none⟩ = some (.int .i64 a1_1) := (blk_cell BK329.out 1).trans rfl; have hcz8_2 : w5.cell? ⟨gb329, 2, none⟩ = some (.slice A1_2 l1_2.length c1_2) := (blk_cell BK329.out 2).trans rfl; have hfz8_0 := blk_frozen BK329.out 0; have hfz8_1 := blk_frozen BK329.out 1; have hfz8_2 := blk_frozen BK329.out 2) | ((with_reducible refine gate_callee (f := 24) rfl ?_); refine goesL_ (some 7) rfl rfl Try.func24 (by kernel_rfl) rfl #[.agg #[.int .i64 a0_0, .int .i64 a0_1, .slice A0_2 l0_2.length c0_2], .agg #[.int .i64 a1_0, .int .i64 a1_1, .slice A1_2 l1_2.length c1_2]] rfl (by (try simp only [List.map_toArray, List.map_cons, List.map_nil]); first | done | rfl | (simp only [List.length_drop, List.length_take]; rfl) | (simp only [Int.ofNat_lt, Int.ofNat_le]; rfl)) ?_; (with_reducible refine (semigroupref04_Compare.calls k a0_0 a0_1 _ _ l0_2 a1_0 a1_1 _ _ l1_2 t330 _ ?side1 ?side2 ?side3 ?side4 A3.out).mono ?_); (case side1 => repeat (first | exact (Kd.C_below HR0_2.out HB.out) | (with_reducible refine Kd.C_alloc ?_ _) | (with_reducible refine Kd.C_drewN ?_ _) | (with_reducible refine Kd.C_drew ?_))); (case side2 => exact HC0_2.out); (case side3 => repeat (first | exact (Kd.C_below HR1_2.out HB.out) | (with_reducible refine Kd.C_alloc ?_ _) | (with_reducible refine Kd.C_drewN ?_ _) | (with_reducible refine Kd.C_drew ?_))); (case side4 => exact HC1_2.out); rintro e w9 ⟨rfl, hb⟩; refine ⟨_, rfl, ?_⟩; have n0_ := Aside0.mk (blk_below (g := gb328) (o := .cells #[.int .i64 a0_0, .int .i64 a0_1, .slice A0_2 l0_2.length c0_2] 24 (0, 0)) (bK) hb); have n1_ := Aside0.mk (blk_below (g := gb329) (o := .cells #[.int .i64 a1_0, .int .i64 a1_1, .slice A1_2 l1_2.length c1_2] 24 (0, 0)) (bK) hb); have n2_ := Aside0.mk (below_step (bB) hb); clear BK328; clear BK329; clear HB; have BK328 := n0_; have BK329 := n1_; have HB := n2_; clear n0_ n1_ n2_; (try clear hb); (try clear hb2); (try clear hk); (try clear hi)))
 go_ret
 exact ⟨by first | rfl | (simp [errW_none, errW_some] <;> rfl) | (simp [*, errW_none, errW_some] <;> rfl), bB⟩
end Go.Proofs.Ytjofkebiacaciaa.PAll
end
section
namespace Go.Proofs.Ytjofkebiacaciaa.PAll
open Go.RowKit Go.Proofs.YtjofkebiacaciaaW.PrintWords Go.Proofs.YtjofkebiacaciaaW.PrintLast Go.Proofs.YtjofkebiacaciaaW.PrintMore
attribute [local go_sem] max2_int min2_int max_two min_two max_three min_three max_four min_four
set_option linter.unusedVariables false
set_option linter.unusedSimpArgs false
def semigrouplaw04_ExprRoundTrips.f (k : Nat) (a0_0 : Int) (a0_1 : Int) (l0_2 : List (S24)) : Option (Bool) := (semigroupref04_Valid.f k a0_0 a0_1 l0_2).bind fun t332 => (if t332 = true then ((expr_Format.f k a0_0 a0_1 l0_2).bind fun t334 => ((expr_Parse.f k t334 6).bind fun bt335 => (if (t334.size : Int) > 4096 then (if bt335.2.2.2.2 = 3 then ((semigrouplaw04_awake.f k).bind fun t343 => (some t343)) else (some false)) else (if bt335.2.2.2.2 = 0 then ((semigrouplaw04_same.f k bt335.1 bt335.2.1 bt335.2.2.1 a0_0 a0_1 l0_2).bind fun t344 => (if t344 = true then ((semigrouplaw04_awake.f k).bind fun t345 => (some t345)) else (some false))) else (some false))))) else ((semigrouplaw04_awake.f k).bind fun t333 => (some t333)))
theorem semigrouplaw04_ExprRoundTrips.mono : ∀ a0 a1 a2 k, LeO (semigrouplaw04_ExprRoundTrips.f k a0 a1 a2) (semigrouplaw04_ExprRoundTrips.f (k + 1) a0 a1 a2) := by
 intro a0 a1 a2 k
 unfold semigrouplaw04_ExprRoundTrips.f
 repeat' first
   | (with_reducible exact expr_Format.mono _ _ _ _)
   | (with_reducible exact expr_Parse.mono _ _ _)
   | (with_reducible exact semigrouplaw04_awake.mono _)
   | (with_reducible exact semigrouplaw04_same.mono _ _ _ _ _ _ _)
   | (with_reducible exact semigroupref04_Valid.mono _ _ _ _)
   | (with_reducible exact LeO.refl _)
   | (with_reducible exact LeO.none _)
   | (with_reducible refine LeO.ite ?_ ?_)
   | (with_reducible refine LeO.bind ?_ (fun _ => ?_))
   | exact expr_Format.mono _ _ _ _
   | exact expr_Parse.mono _ _ _
   | exact semigrouplaw04_awake.mono _
   | exact semigrouplaw04_same.mono _ _ _ _ _ _ _
   | exact semigroupref04_Valid.mono _ _ _ _
   | exact LeO.none _
   | refine LeO.ite ?_ ?_
   | refine LeO.bind ?_ (fun _ => ?_)
set_option maxHeartbeats 8000000 in
set_option maxRecDepth 100000 in
theorem semigrouplaw04_ExprRoundTrips.calls (k : Nat) (a0_0 : Int) (a0_1 : Int) (A0_2 : Option Addr) (c0_2 : Nat) (l0_2 : List (S24)) (r : Bool) (w : World) (hr0_2 : Kd.C k24 w A0_2 l0_2.length l0_2) (hc0_2 : l0_2.length ≤ c0_2) (h : semigrouplaw04_ExprRoundTrips.f k a0_0 a0_1 l0_2 = some r) :
  Calls Try.prog 5 #[.agg #[.int .i64 a0_0, .int .i64 a0_1, .slice A0_2 l0_2.length c0_2]] w fun e w' => e = .returned (.bool r) ∧ Below w.heap.size w w' := by
 have hu24 := Try.underlying24
 have HR0_2 := Aside0.mk hr0_2
 have HC0_2 := Aside0.mk hc0_2
 clear hr0_2 hc0_2
 have HB := Aside0.mk (Below.refl w.heap.size w)
 have H : ((semigroupref04_Valid.f k a0_0 a0_1 l0_2).bind fun t332 => (if t332 = true then ((expr_Format.f k a0_0 a0_1 l0_2).bind fun t334 => ((expr_Parse.f k t334 6).bind fun bt335 => (if (t334.size : Int) > 4096 then (if bt335.2.2.2.2 = 3 then ((semigrouplaw04_awake.f k).bind fun t343 => (some t343)) else (some false)) else (if bt335.2.2.2.2 = 0 then ((semigrouplaw04_same.f k bt335.1 bt335.2.1 bt335.2.2.1 a0_0 a0_1 l0_2).bind fun t344 => (if t344 = true then ((semigrouplaw04_awake.f k).bind fun t345 => (some t345)) else (some false))) else (some false))))) else ((semigrouplaw04_awake.f k).bind fun t333 => (some t333)))) = some r := h
 clear h
 replace H := Option.bind_eq_some_iff.mp H
 obtain ⟨t332, A20, H⟩ := H
 replace H : (if t332 = true then ((expr_Format.f k a0_0 a0_1 l0_2).bind fun t334 => ((expr_Parse.f k t334 6).bind fun bt335 => (if (t334.size : Int) > 4096 then (if bt335.2.2.2.2 = 3 then ((semigrouplaw04_awake.f k).bind fun t343 => (some t343)) else (some false)) else (if bt335.2.2.2.2 = 0 then ((semigrouplaw04_same.f k bt335.1 bt335.2.1 bt335.2.2.1 a0_0 a0_1 l0_2).bind fun t344 => (if t344 = true then ((semigrouplaw04_awake.f k).bind fun t345 => (some t345)) else (some false))) else (some false))))) else ((semigrouplaw04_awake.f k).bind fun t333 => (some t333))) = some r := H
 have A2 := Aside0.mk A20
 clear A20
 by_cases c3 : t332 = true
 ·subst c3
  have H1 : ((expr_Format.f k a0_0 a0_1 l0_2).bind fun t334 => ((expr_Parse.f k t334 6).bind fun bt335 => (if (t334.size : Int) > 4096 then (if bt335.2.2.2.2 = 3 then ((semigrouplaw04_awake.f k).bind fun t343 => (some t343)) else (some false)) else (if bt335.2.2.2.2 = 0 then ((semigrouplaw04_same.f k bt335.1 bt335.2.1 bt335.2.2.1 a0_0 a0_1 l0_2).bind fun t344 => (if t344 = true then ((semigrouplaw04_awake.f k).bind fun t345 => (some t345)) else (some false))) else (some false))))) = some r := by rw [if_pos rfl] at H; exact H
  clear H
  have H := H1
  clear H1
  replace H := Option.bind_eq_some_iff.mp H
  obtain ⟨t334, A40, H⟩ := H
  replace H : ((expr_Parse.f k t334 6).bind fun bt335 => (if (t334.size : Int) > 4096 then (if bt335.2.2.2.2 = 3 then ((semigrouplaw04_awake.f k).bind fun t343 => (some t343)) else (some false)) else (if bt335.2.2.2.2 = 0 then ((semigrouplaw04_same.f k bt335.1 bt335.2.1 bt335.2.2.1 a0_0 a0_1 l0_2).bind fun t344 => (if t344 = true then ((semigrouplaw04_awake.f k).bind fun t345 => (some t345)) else (some false))) else (some false)))) = some r := H
  have A4 := Aside0.mk A40
  clear A40
  replace H := Option.bind_eq_some_iff.mp H
  obtain ⟨⟨t335, t336, t337, t340, t341⟩, A50, H⟩ := H
  replace H : (if (t334.size : Int) > 4096 then (if t341 = 3 then ((semigrouplaw04_awake.f k).bind fun t343 => (some t343)) else (some false)) else (if t341 = 0 then ((semigrouplaw04_same.f k t335 t336 t337 a0_0 a0_1 l0_2).bind fun t344 => (if t344 = true then ((semigrouplaw04_awake.f k).bind fun t345 => (some t345)) else (some false))) else (some false))) = some r := H
  have A5 := Aside0.mk A50
  clear A50
  by_cases c6 : (t334.size : Int) > 4096
  ·rw [if_pos c6] at H
   have c6b0 : decide (4096 < (t334.size : Int)) = true := decide_eq_true c6
   have c6b1 : decide (4096 < t334.size) = true := decide_eq_true (by omega)
   clear c6
   by_cases c7 : t341 = 3
   ·rw [if_pos c7] at H
    have c7b0 : (t341 == 3) = true := beq_iff_eq.mpr c7
    have c7b1 : (t341 != 3) = false := bne_eq_false_iff_eq.mpr c7
    clear c7
    replace H := Option.bind_eq_some_iff.mp H
    obtain ⟨t343, A80, H⟩ := H
    replace H : (some t343) = some r := H
    have A8 := Aside0.mk A80
    clear A80
    obtain rfl := Option.some.inj H
    go_enter Try.func5, Try.ntmps5
    go_wp2_with (first | ((with_reducible refine gate_dst (N := 1) rfl ?_); refine box_event ?hg (N := 1) ?hd (cs := #[.int .i64 a0_0, .int .i64 a0_1, .slice A0_2 l0_2.length c0_2]) (t := 24) ?hr ?_; (case hd => rfl); (case hg => rfl); (case hr => first | (go_simp; done) | (go_simp; rfl)); intro gb331 hg w9 hbox hb; have n0_ := Aside0.mk (below_step (bB) hb); have n1_ := Aside0.mk (hbox); have n2_ := Aside0.mk ((by rw [hg]; exact (below_size (bB)) : w.heap.size ≤ gb331)); have n3_ := Aside0.mk ((by rw [hg]; exact (below_size (bB)) : w.heap.size ≤ gb331)); clear HB; have HB := n0_; have BK331 := n1_; have GW331 := n2_; have GE331 := n3_; clear n0_ n1_ n2_ n3_; clear hb hbox hg; have hcz10_0 : w9.cell? ⟨gb331, 0, none⟩ = some (.int .i64 a0_0) := (blk_cell BK331.out 0).trans rfl; have hcz10_1 : w9.cell? ⟨gb331, 1, none⟩ = some (.int .i64 a0_1) := (blk_cell BK331.out 1).trans rfl; have hcz10_2 : w9.cell? ⟨gb331, 2, none⟩ = some (.slice A0_2 l0_2.length c0_2) := (blk_cell BK331.out 2).trans rfl; have hfz10_0 := blk_frozen BK331.out 0; have hfz10_1 := blk_frozen BK331.out 1; have hfz10_2 := blk_frozen BK331.out 2) | ((with_reducible refine gate_callee (f := 19) rfl ?_); refine goesL_ (some 8) rfl rfl Try.func19 (by kernel_rfl) rfl #[.agg #[.int .i64 a0_0, .int .i64 a0_1, .slice A0_2 l0_2.length c0_2]] rfl (by (try simp only [List.map_toArray, List.map_cons, List.map_nil]); first | done | rfl | (simp only [List.length_drop, List.length_take]; rfl) | (simp only [Int.ofNat_lt, Int.ofNat_le]; rfl)) ?_; (with_reducible refine (semigroupref04_Valid.calls k a0_0 a0_1 _ _ l0_2 true _ ?side1 ?side2 A2.out).mono ?_); (case side1 => repeat (first | exact (Kd.C_below HR0_2.out HB.out) | (with_reducible refine Kd.C_alloc ?_ _) | (with_reducible refine Kd.C_drewN ?_ _) | (with_reducible refine Kd.C_drew ?_))); (case side2 => exact HC0_2.out); rintro e w11 ⟨rfl, hb⟩; refine ⟨_, rfl, ?_⟩; have n0_ := Aside0.mk (blk_below (g := gb331) (o := .cells #[.int .i64 a0_0, .int .i64 a0_1, .slice A0_2 l0_2.length c0_2] 24 (0, 0)) (bK) hb); have n1_ := Aside0.mk (below_step (bB) hb); clear BK331; clear HB; have BK331 := n0_; have HB := n1_; clear n0_ n1_; (try clear hb); (try clear hb2); (try clear hk); (try clear hi); have hcz12_0 : w11.cell? ⟨gb331, 0, none⟩ = some (.int .i64 a0_0) := (blk_cell BK331.out 0).trans rfl; have hcz12_1 : w11.cell? ⟨gb331, 1, none⟩ = some (.int .i64 a0_1) := (blk_cell BK331.out 1).trans rfl; have hcz12_2 : w11.cell? ⟨gb331, 2, none⟩ = some (.slice A0_2 l0_2.length c0_2) := (blk_cell BK331.out 2).trans rfl; have hfz12_0 := blk_frozen BK331.out 0; have hfz12_1 := blk_frozen BK331.out 1; have hfz12_2 := blk_frozen BK331.out 2) | ((with_reducible refine gate_callee (f := 18) rfl ?_); refine goesL_ (some 12) rfl rfl Try.func18 (by kernel_rfl) rfl #[.agg #[.int .i64 a0_0, .int .i64 a0_1, .slice A0_2 l0_2.length c0_2]] rfl (by (try simp only [List.map_toArray, List.map_cons, List.map_nil]); first | done | rfl | (simp only [List.length_drop, List.length_take]; rfl) | (simp only [Int.ofNat_lt, Int.ofNat_le]; rfl)) ?_; (with_reducible refine (expr_Format.calls k a0_0 a0_1 _ _ l0_2 t334 _ ?side1 ?side2 A4.out).mono ?_); (case side1 => repeat (first | exact (Kd.C_below HR0_2.out HB.out) | (with_reducible refine Kd.C_alloc ?_ _) | (with_reducible refine Kd.C_drewN ?_ _) | (with_reducible refine Kd.C_drew ?_))); (case side2 => exact HC0_2.out); rintro e w13 ⟨rfl, hb⟩; refine ⟨_, rfl, ?_⟩; have n0_ := Aside0.mk (blk_below (g := gb331) (o := .cells #[.int .i64 a0_0, .int .i64 a0_1, .slice A0_2 l0_2.length c0_2] 24 (0, 0)) (bK) hb); have n1_ := Aside0.mk (below_step (bB) hb); clear BK331; clear HB; have BK331 := n0_; have HB := n1_; clear n0_ n1_; (try clear hb); (try clear hb2); (try clear hk); (try clear hi)) | ((with_reducible refine gate_callee (f := 21) rfl ?_); (fail_if_success (have chk_ := HO339)); refine goesL_ (some 15) rfl rfl Try.func21 (by kernel_rfl) rfl #[.string t334, .int .i64 6] rfl (by (try simp only [List.map_toArray, List.map_cons, List.map_nil]); first | done | rfl | (simp only [List.length_drop, List.length_take]; rfl) | (simp only [Int.ofNat_lt, Int.ofNat_le]; rfl)) ?_; (with_reducible refine (expr_Parse.calls k t334 6 t335 t336 t337 t340 t341 _ A5.out).mono ?_); rintro e w14 ⟨v338, rfl, ho0, hb⟩; refine ⟨_, rfl, ?_⟩; have n0_ := Aside0.mk (Kd.V_lower (Kd.V_mono (ok' := fun k_ => k_ ≠ gb331) ho0 (fun k_ hk_ => (Kd.freshB (g := gb331) (o := .cells #[.int .i64 a0_0, .int .i64 a0_1, .slice A0_2 l0_2.length c0_2] 24 (0, 0)) (bK) k_ hk_))) (below_size (bB))); have n1_ := Aside0.mk (blk_below (g := gb331) (o := .cells #[.int .i64 a0_0, .int .i64 a0_1, .slice A0_2 l0_2.length c0_2] 24 (0, 0)) (bK) hb); have n2_ := Aside0.mk (below_step (bB) hb); clear BK331; clear HB; have HO339 := n0_; have BK331 := n1_; have HB := n2_; clear n0_ n1_ n2_; (try clear hb); (try clear hb2); (try clear hk); (try clear hi); (try clear ho0)) | ((with_reducible refine gate_dst (N := 4) rfl ?_); refine box_event ?hg (N := 4) ?hd (cs := #[.int .i64 0, .int .i64 0, .slice none 0 0]) (t := 24) ?hr ?_; (case hd => rfl); (case hg => rfl); (case hr => first | (go_simp; done) | (go_simp; rfl)); intro gb342 hg w15 hbox hb; have n0_ := Aside0.mk (Kd.V_below (Kd.V_elderB (by (with_reducible repeat (first | apply Kd.V_alloc | apply Kd.V_drewN | apply Kd.V_drew)); exact HO339.out) gb342 (Nat.le_of_eq hg.symm)) hb); have n1_ := Aside0.mk (blk_below (g := gb331) (o := .cells #[.int .i64 a0_0, .int .i64 a0_1, .slice A0_2 l0_2.length c0_2] 24 (0, 0)) (bK) hb); have n2_ := Aside0.mk (below_step (bB) hb); have n3_ := Aside0.mk (hbox); have n4_ := Aside0.mk ((by rw [hg]; exact (below_size (bB)) : w.heap.size ≤ gb342)); have n5_ := Aside0.mk ((by rw [hg]; exact (below_size (bB)) : w.heap.size ≤ gb342)); have n6_ := Aside0.mk ((by rw [hg]; exact Nat.ne_of_lt (blk_lt (g := gb331) (o := .cells #[.int .i64 a0_0, .int .i64 a0_1, .slice A0_2 l0_2.length c0_2] 24 (0, 0)) (bK)) : gb331 ≠ gb342)); have n7_ := Aside0.mk ((by rw [hg]; exact Nat.ne_of_gt (blk_lt (g := gb331) (o := .cells #[.int .i64 a0_0, .int .i64 a0_1, .slice A0_2 l0_2.length c0_2] 24 (0, 0)) (bK)) : gb342 ≠ gb331)); clear HO339; clear BK331; clear HB; have HO339 := n0_; have BK331 := n1_; have HB := n2_; have BK342 := n3_; have GW342 := n4_; have GE342 := n5_; have NB331_342 := n6_; have NB342_331 := n7_; clear n0_ n1_ n2_ n3_ n4_ n5_ n6_ n7_; clear hb hbox hg; have hnb16 := NB342_331.out; have hnc16 := NB331_342.out; have hcz17_0 : w15.cell? ⟨gb342, 0, none⟩ = some (.int .i64 0) := (blk_cell BK342.out 0).trans rfl; have hcz17_1 : w15.cell? ⟨gb342, 1, none⟩ = some (.int .i64 0) := (blk_cell BK342.out 1).trans rfl; have hcz17_2 : w15.cell? ⟨gb342, 2, none⟩ = some (.slice none 0 0) := (blk_cell BK342.out 2).trans rfl; have hfz17_0 := blk_frozen BK342.out 0; have hfz17_1 := blk_frozen BK342.out 1; have hfz17_2 := blk_frozen BK342.out 2; obtain ⟨Ao18, co18, eo18⟩ := Kd.V_slice HO339.out; subst eo18) | (go_at_call 17; (with_reducible refine (semigrouplaw04_awake.calls k  t343 _ A8.out).mono ?_); rintro e w19 ⟨rfl, hb⟩; have n0_ := Aside0.mk (Kd.V_below (by (with_reducible repeat (first | apply Kd.V_alloc | apply Kd.V_drewN | apply Kd.V_drew)); exact (Kd.V_mono (Kd.V_far (p := ⟨gb342, 2, none⟩) (Kd.V_far (p := ⟨gb342, 1, none⟩) (Kd.V_far (p := ⟨gb342, 0, none⟩) (Kd.V_mono HO339.out (fun k_ hk => (⟨hk, hk.2⟩ : _ ∧ k_ ≠ gb342))) (fun _ hk => hk.2) (.int .i64 t335)) (fun _ hk => hk.2) (.int .i64 t336)) (fun _ hk => hk.2) (.slice Ao18 t337.length co18)) (fun _ h_ => h_.1))) hb); have n1_ := Aside0.mk (blk_below (g := gb331) (o := .cells #[.int .i64 a0_0, .int .i64 a0_1, .slice A0_2 l0_2.length c0_2] 24 (0, 0)) (by (with_reducible repeat (first | refine blk_drewN ?_ _ | refine blk_drew ?_ | refine blk_alloc ?_ _)); refine blk_far ?_ NB331_342.out _; (with_reducible repeat (first | refine blk_drewN ?_ _ | refine blk_drew ?_ | refine blk_alloc ?_ _)); refine blk_far ?_ NB331_342.out _; (with_reducible repeat (first | refine blk_drewN ?_ _ | refine blk_drew ?_ | refine blk_alloc ?_ _)); refine blk_far ?_ NB331_342.out _; (with_reducible repeat (first | refine blk_drewN ?_ _ | refine blk_drew ?_ | refine blk_alloc ?_ _)); exact BK331.out) hb); have n2_ := Aside0.mk (blk_below (g := gb342) (o := .cells #[.int .i64 t335, .int .i64 t336, .slice Ao18 t337.length co18] 24 (0, 0)) (by (with_reducible repeat (first | refine blk_drewN ?_ _ | refine blk_drew ?_ | refine blk_alloc ?_ _)); refine blk_put (cs := #[.int .i64 t335, .int .i64 t336, .slice none 0 0]) ?_ 2 _ rfl; (with_reducible repeat (first | refine blk_drewN ?_ _ | refine blk_drew ?_ | refine blk_alloc ?_ _)); refine blk_put (cs := #[.int .i64 t335, .int .i64 0, .slice none 0 0]) ?_ 1 _ rfl; (with_reducible repeat (first | refine blk_drewN ?_ _ | refine blk_drew ?_ | refine blk_alloc ?_ _)); refine blk_put (cs := #[.int .i64 0, .int .i64 0, .slice none 0 0]) ?_ 0 _ rfl; (with_reducible repeat (first | refine blk_drewN ?_ _ | refine blk_drew ?_ | refine blk_alloc ?_ _)); exact BK342.out) hb); have n3_ := Aside0.mk (below_step (bB) hb); clear HO339; clear BK331; clear BK342; clear HB; have HO339 := n0_; have BK331 := n1_; have BK342 := n2_; have HB := n3_; clear n0_ n1_ n2_ n3_; (try clear hb); (try clear hb2); (try clear hk); (try clear hi)))
    go_ret
    exact ⟨by first | rfl | (simp [errW_none, errW_some] <;> rfl) | (simp [*, errW_none, errW_some] <;> rfl), bB⟩
   ·rw [if_neg c7] at H
    have c7b0 : (t341 == 3) = false := beq_eq_false_iff_ne.mpr c7
    have c7b1 : (t341 != 3) = true := bne_iff_ne.mpr c7
    obtain rfl := Option.some.inj H
    go_enter Try.func5, Try.ntmps5
    go_wp2_with (first | ((with_reducible refine gate_dst (N := 1) rfl ?_); refine box_event ?hg (N := 1) ?hd (cs := #[.int .i64 a0_0, .int .i64 a0_1, .slice A0_2 l0_2.length c0_2]) (t := 24) ?hr ?_; (case hd => rfl); (case hg => rfl); (case hr => first | (go_simp; done) | (go_simp; rfl)); intro gb331 hg w20 hbox hb; have n0_ := Aside0.mk (below_step (bB) hb); have n1_ := Aside0.mk (hbox); have n2_ := Aside0.mk ((by rw [hg]; exact (below_size (bB)) : w.heap.size ≤ gb331)); have n3_ := Aside0.mk ((by rw [hg]; exact (below_size (bB)) : w.heap.size ≤ gb331)); clear HB; have HB := n0_; have BK331 := n1_; have GW331 := n2_; have GE331 := n3_; clear n0_ n1_ n2_ n3_; clear hb hbox hg; have hcz21_0 : w20.cell? ⟨gb331, 0, none⟩ = some (.int .i64 a0_0) := (blk_cell BK331.out 0).trans rfl; have hcz21_1 : w20.cell? ⟨gb331, 1, none⟩ = some (.int .i64 a0_1) := (blk_cell BK331.out 1).trans rfl; have hcz21_2 : w20.cell? ⟨gb331, 2, none⟩ = some (.slice A0_2 l0_2.length c0_2) := (blk_cell BK331.out 2).trans rfl; have hfz21_0 := blk_frozen BK331.out 0; have hfz21_1 := blk_frozen BK331.out 1; have hfz21_2 := blk_frozen BK331.out 2) | ((with_reducible refine gate_callee (f := 19) rfl ?_); refine goesL_ (some 8) rfl rfl Try.func19 (by kernel_rfl) rfl #[.agg #[.int .i64 a0_0, .int .i64 a0_1, .slice A0_2 l0_2.length c0_2]] rfl (by (try simp only [List.map_toArray, List.map_cons, List.map_nil]); first | done | rfl | (simp only [List.length_drop, List.length_take]; rfl) | (simp only [Int.ofNat_lt, Int.ofNat_le]; rfl)) ?_; (with_reducible refine (semigroupref04_Valid.calls k a0_0 a0_1 _ _ l0_2 true _ ?side1 ?side2 A2.out).mono ?_); (case side1 => repeat (first | exact (Kd.C_below HR0_2.out HB.out) | (with_reducible refine Kd.C_alloc ?_ _) | (with_reducible refine Kd.C_drewN ?_ _) | (with_reducible refine Kd.C_drew ?_))); (case side2 => exact HC0_2.out); rintro e w22 ⟨rfl, hb⟩; refine ⟨_, rfl, ?_⟩; have n0_ := Aside0.mk (blk_below (g := gb331) (o := .cells #[.int .i64 a0_0, .int .i64 a0_1, .slice A0_2 l0_2.length c0_2] 24 (0, 0)) (bK) hb); have n1_ := Aside0.mk (below_step (bB) hb); clear BK331; clear HB; have BK331 := n0_; have HB := n1_; clear n0_ n1_; (try clear hb); (try clear hb2); (try clear hk); (try clear hi); have hcz23_0 : w22.cell? ⟨gb331, 0, none⟩ = some (.int .i64 a0_0) := (blk_cell BK331.out 0).trans rfl; have hcz23_1 : w22.cell? ⟨gb331, 1, none⟩ = some (.int .i64 a0_1) := (blk_cell BK331.out 1).trans rfl; have hcz23_2 : w22.cell? ⟨gb331, 2, none⟩ = some (.slice A0_2 l0_2.length c0_2) := (blk_cell BK331.out 2).trans rfl; have hfz23_0 := blk_frozen BK331.out 0; have hfz23_1 := blk_frozen BK331.out 1; have hfz23_2 := blk_frozen BK331.out 2) | ((with_reducible refine gate_callee (f := 18) rfl ?_); refine goesL_ (some 12) rfl rfl Try.func18 (by kernel_rfl) rfl #[.agg #[.int .i64 a0_0, .int .i64 a0_1, .slice A0_2 l0_2.length c0_2]] rfl (by (try simp only [List.map_toArray, List.map_cons, List.map_nil]); first | done | rfl | (simp only [List.length_drop, List.length_take]; rfl) | (simp only [Int.ofNat_lt, Int.ofNat_le]; rfl)) ?_; (with_reducible refine (expr_Format.calls k a0_0 a0_1 _ _ l0_2 t334 _ ?side1 ?side2 A4.out).mono ?_); (case side1 => repeat (first | exact (Kd.C_below HR0_2.out HB.out) | (with_reducible refine Kd.C_alloc ?_ _) | (with_reducible refine Kd.C_drewN ?_ _) | (with_reducible refine Kd.C_drew ?_))); (case side2 => exact HC0_2.out); rintro e w24 ⟨rfl, hb⟩; refine ⟨_, rfl, ?_⟩; have n0_ := Aside0.mk (blk_below (g := gb331) (o := .cells #[.int .i64 a0_0, .int .i64 a0_1, .slice A0_2 l0_2.length c0_2] 24 (0, 0)) (bK) hb); have n1_ := Aside0.mk (below_step (bB) hb); clear BK331; clear HB; have BK331 := n0_; have HB := n1_; clear n0_ n1_; (try clear hb); (try clear hb2); (try clear hk); (try clear hi)) | ((with_reducible refine gate_callee (f := 21) rfl ?_); (fail_if_success (have chk_ := HO339)); refine goesL_ (some 15) rfl rfl Try.func21 (by kernel_rfl) rfl #[.string t334, .int .i64 6] rfl (by (try simp only [List.map_toArray, List.map_cons, List.map_nil]); first | done | rfl | (simp only [List.length_drop, List.length_take]; rfl) | (simp only [Int.ofNat_lt, Int.ofNat_le]; rfl)) ?_; (with_reducible refine (expr_Parse.calls k t334 6 t335 t336 t337 t340 t341 _ A5.out).mono ?_); rintro e w25 ⟨v338, rfl, ho0, hb⟩; refine ⟨_, rfl, ?_⟩; have n0_ := Aside0.mk (Kd.V_lower (Kd.V_mono (ok' := fun k_ => k_ ≠ gb331) ho0 (fun k_ hk_ => (Kd.freshB (g := gb331) (o := .cells #[.int .i64 a0_0, .int .i64 a0_1, .slice A0_2 l0_2.length c0_2] 24 (0, 0)) (bK) k_ hk_))) (below_size (bB))); have n1_ := Aside0.mk (blk_below (g := gb331) (o := .cells #[.int .i64 a0_0, .int .i64 a0_1, .slice A0_2 l0_2.length c0_2] 24 (0, 0)) (bK) hb); have n2_ := Aside0.mk (below_step (bB) hb); clear BK331; clear HB; have HO339 := n0_; have BK331 := n1_; have HB := n2_; clear n0_ n1_ n2_; (try clear hb); (try clear hb2); (try clear hk); (try clear hi); (try clear ho0)) | ((with_reducible refine gate_dst (N := 4) rfl ?_); refine box_event ?hg (N := 4) ?hd (cs := #[.int .i64 0, .int .i64 0, .slice none 0 0]) (t := 24) ?hr ?_; (case hd => rfl); (case hg => rfl); (case hr => first | (go_simp; done) | (go_simp; rfl)); intro gb342 hg w26 hbox hb; have n0_ := Aside0.mk (Kd.V_below (Kd.V_elderB (by (with_reducible repeat (first | apply Kd.V_alloc | apply Kd.V_drewN | apply Kd.V_drew)); exact HO339.out) gb342 (Nat.le_of_eq hg.symm)) hb); have n1_ := Aside0.mk (blk_below (g := gb331) (o := .cells #[.int .i64 a0_0, .int .i64 a0_1, .slice A0_2 l0_2.length c0_2] 24 (0, 0)) (bK) hb); have n2_ := Aside0.mk (below_step (bB) hb); have n3_ := Aside0.mk (hbox); have n4_ := Aside0.mk ((by rw [hg]; exact (below_size (bB)) : w.heap.size ≤ gb342)); have n5_ := Aside0.mk ((by rw [hg]; exact (below_size (bB)) : w.heap.size ≤ gb342)); have n6_ := Aside0.mk ((by rw [hg]; exact Nat.ne_of_lt (blk_lt (g := gb331) (o := .cells #[.int .i64 a0_0, .int .i64 a0_1, .slice A0_2 l0_2.length c0_2] 24 (0, 0)) (bK)) : gb331 ≠ gb342)); have n7_ := Aside0.mk ((by rw [hg]; exact Nat.ne_of_gt (blk_lt (g := gb331) (o := .cells #[.int .i64 a0_0, .int .i64 a0_1, .slice A0_2 l0_2.length c0_2] 24 (0, 0)) (bK)) : gb342 ≠ gb331)); clear HO339; clear BK331; clear HB; have HO339 := n0_; have BK331 := n1_; have HB := n2_; have BK342 := n3_; have GW342 := n4_; have GE342 := n5_; have NB331_342 := n6_; have NB342_331 := n7_; clear n0_ n1_ n2_ n3_ n4_ n5_ n6_ n7_; clear hb hbox hg; have hnb27 := NB342_331.out; have hnc27 := NB331_342.out; have hcz28_0 : w26.cell? ⟨gb342, 0, none⟩ = some (.int .i64 0) := (blk_cell BK342.out 0).trans rfl; have hcz28_1 : w26.cell? ⟨gb342, 1, none⟩ = some (.int .i64 0) := (blk_cell BK342.out 1).trans rfl; have hcz28_2 : w26.cell? ⟨gb342, 2, none⟩ = some (.slice none 0 0) := (blk_cell BK342.out 2).trans rfl; have hfz28_0 := blk_frozen BK342.out 0; have hfz28_1 := blk_frozen BK342.out 1; have hfz28_2 := blk_frozen BK342.out 2; obtain ⟨Ao29, co29, eo29⟩ := Kd.V_slice HO339.out; subst eo29))
    go_ret
    exact ⟨by first | rfl | (simp [errW_none, errW_some] <;> rfl) | (simp [*, errW_none, errW_some] <;> rfl), bB⟩
  ·rw [if_neg c6] at H
   have c6b0 : decide (4096 < (t334.size : Int)) = false := decide_eq_false c6
   have c6b1 : decide (4096 < t334.size) = false := decide_eq_false (by omega)
   clear c6
   by_cases c30 : t341 = 0
   ·rw [if_pos c30] at H
    have c30b0 : (t341 == 0) = true := beq_iff_eq.mpr c30
    have c30b1 : (t341 != 0) = false := bne_eq_false_iff_eq.mpr c30
    clear c30
    replace H := Option.bind_eq_some_iff.mp H
    obtain ⟨t344, A310, H⟩ := H
    replace H : (if t344 = true then ((semigrouplaw04_awake.f k).bind fun t345 => (some t345)) else (some false)) = some r := H
    have A31 := Aside0.mk A310
    clear A310
    by_cases c32 : t344 = true
    ·subst c32
     have H1 : ((semigrouplaw04_awake.f k).bind fun t345 => (some t345)) = some r := by rw [if_pos rfl] at H; exact H
     clear H
     have H := H1
     clear H1
     replace H := Option.bind_eq_some_iff.mp H
     obtain ⟨t345, A330, H⟩ := H
     replace H : (some t345) = some r := H
     have A33 := Aside0.mk A330
     clear A330
     obtain rfl := Option.some.inj H
     go_enter Try.func5, Try.ntmps5
     go_wp2_with (first | ((with_reducible refine gate_dst (N := 1) rfl ?_); refine box_event ?hg (N := 1) ?hd (cs := #[.int .i64 a0_0, .int .i64 a0_1, .slice A0_2 l0_2.length c0_2]) (t := 24) ?hr ?_; (case hd => rfl); (case hg => rfl); (case hr => first | (go_simp; done) | (go_simp; rfl)); intro gb331 hg w34 hbox hb; have n0_ := Aside0.mk (below_step (bB) hb); have n1_ := Aside0.mk (hbox); have n2_ := Aside0.mk ((by rw [hg]; exact (below_size (bB)) : w.heap.size ≤ gb331)); have n3_ := Aside0.mk ((by rw [hg]; exact (below_size (bB)) : w.heap.size ≤ gb331)); clear HB; have HB := n0_; have BK331 := n1_; have GW331 := n2_; have GE331 := n3_; clear n0_ n1_ n2_ n3_; clear hb hbox hg; have hcz35_0 : w34.cell? ⟨gb331, 0, none⟩ = some (.int .i64 a0_0) := (blk_cell BK331.out 0).trans rfl; have hcz35_1 : w34.cell? ⟨gb331, 1, none⟩ = some (.int .i64 a0_1) := (blk_cell BK331.out 1).trans rfl; have hcz35_2 : w34.cell? ⟨gb331, 2, none⟩ = some (.slice A0_2 l0_2.length c0_2) := (blk_cell BK331.out 2).trans rfl; have hfz35_0 := blk_frozen BK331.out 0; have hfz35_1 := blk_frozen BK331.out 1; have hfz35_2 := blk_frozen BK331.out 2) | ((with_reducible refine gate_callee (f := 19) rfl ?_); refine goesL_ (some 8) rfl rfl Try.func19 (by kernel_rfl) rfl #[.agg #[.int .i64 a0_0, .int .i64 a0_1, .slice A0_2 l0_2.length c0_2]] rfl (by (try simp only [List.map_toArray, List.map_cons, List.map_nil]); first | done | rfl | (simp only [List.length_drop, List.length_take]; rfl) | (simp only [Int.ofNat_lt, Int.ofNat_le]; rfl)) ?_; (with_reducible refine (semigroupref04_Valid.calls k a0_0 a0_1 _ _ l0_2 true _ ?side1 ?side2 A2.out).mono ?_); (case side1 => repeat (first | exact (Kd.C_below HR0_2.out HB.out) | (with_reducible refine Kd.C_alloc ?_ _) | (with_reducible refine Kd.C_drewN ?_ _) | (with_reducible refine Kd.C_drew ?_))); (case side2 => exact HC0_2.out); rintro e w36 ⟨rfl, hb⟩; refine ⟨_, rfl, ?_⟩; have n0_ := Aside0.mk (blk_below (g := gb331) (o := .cells #[.int .i64 a0_0, .int .i64 a0_1, .slice A0_2 l0_2.length c0_2] 24 (0, 0)) (bK) hb); have n1_ := Aside0.mk (below_step (bB) hb); clear BK331; clear HB; have BK331 := n0_; have HB := n1_; clear n0_ n1_; (try clear hb); (try clear hb2); (try clear hk); (try clear hi); have hcz37_0 : w36.cell? ⟨gb331, 0, none⟩ = some (.int .i64 a0_0) := (blk_cell BK331.out 0).trans rfl; have hcz37_1 : w36.cell? ⟨gb331, 1, none⟩ = some (.int .i64 a0_1) := (blk_cell BK331.out 1).trans rfl; have hcz37_2 : w36.cell? ⟨gb331, 2, none⟩ = some (.slice A0_2 l0_2.length c0_2) := (blk_cell BK331.out 2).trans rfl; have hfz37_0 := blk_frozen BK331.out 0; have hfz37_1 := blk_frozen BK331.out 1; have hfz37_2 := blk_frozen BK331.out 2) | ((with_reducible refine gate_callee (f := 18) rfl ?_); refine goesL_ (some 12) rfl rfl Try.func18 (by kernel_rfl) rfl #[.agg #[.int .i64 a0_0, .int .i64 a0_1, .slice A0_2 l0_2.length c0_2]] rfl (by (try simp only [List.map_toArray, List.map_cons, List.map_nil]); first | done | rfl | (simp only [List.length_drop, List.length_take]; rfl) | (simp only [Int.ofNat_lt, Int.ofNat_le]; rfl)) ?_; (with_reducible refine (expr_Format.calls k a0_0 a0_1 _ _ l0_2 t334 _ ?side1 ?side2 A4.out).mono ?_); (case side1 => repeat (first | exact (Kd.C_below HR0_2.out HB.out) | (with_reducible refine Kd.C_alloc ?_ _) | (with_reducible refine Kd.C_drewN ?_ _) | (with_reducible refine Kd.C_drew ?_))); (case side2 => exact HC0_2.out); rintro e w38 ⟨rfl, hb⟩; refine ⟨_, rfl, ?_⟩; have n0_ := Aside0.mk (blk_below (g := gb331) (o := .cells #[.int .i64 a0_0, .int .i64 a0_1, .slice A0_2 l0_2.length c0_2] 24 (0, 0)) (bK) hb); have n1_ := Aside0.mk (below_step (bB) hb); clear BK331; clear HB; have BK331 := n0_; have HB := n1_; clear n0_ n1_; (try clear hb); (try clear hb2); (try clear hk); (try clear hi)) | ((with_reducible refine gate_callee (f := 21) rfl ?_); (fail_if_success (have chk_ := HO339)); refine goesL_ (some 15) rfl rfl Try.func21 (by kernel_rfl) rfl #[.string t334, .int .i64 6] rfl (by (try simp only [List.map_toArray, List.map_cons, List.map_nil]); first | done | rfl | (simp only [List.length_drop, List.length_take]; rfl) | (simp only [Int.ofNat_lt, Int.ofNat_le]; rfl)) ?_; (with_reducible refine (expr_Parse.calls k t334 6 t335 t336 t337 t340 t341 _ A5.out).mono ?_); rintro e w39 ⟨v338, rfl, ho0, hb⟩; refine ⟨_, rfl, ?_⟩; have n0_ := Aside0.mk (Kd.V_lower (Kd.V_mono (ok' := fun k_ => k_ ≠ gb331) ho0 (fun k_ hk_ => (Kd.freshB (g := gb331) (o := .cells #[.int .i64 a0_0, .int .i64 a0_1, .slice A0_2 l0_2.length c0_2] 24 (0, 0)) (bK) k_ hk_))) (below_size (bB))); have n1_ := Aside0.mk (blk_below (g := gb331) (o := .cells #[.int .i64 a0_0, .int .i64 a0_1, .slice A0_2 l0_2.length c0_2] 24 (0, 0)) (bK) hb); have n2_ := Aside0.mk (below_step (bB) hb); clear BK331; clear HB; have HO339 := n0_; have BK331 := n1_; have HB := n2_; clear n0_ n1_ n2_; (try clear hb); (try clear hb2); (try clear hk); (try clear hi); (try clear ho0)) | ((with_reducible refine gate_dst (N := 4) rfl ?_); refine box_event ?hg (N := 4) ?hd (cs := #[.int .i64 0, .int .i64 0, .slice none 0 0]) (t := 24) ?hr ?_; (case hd => rfl); (case hg => rfl); (case hr => first | (go_simp; done) | (go_simp; rfl)); intro gb342 hg w40 hbox hb; have n0_ := Aside0.mk (Kd.V_below (Kd.V_elderB (by (with_reducible repeat (first | apply Kd.V_alloc | apply Kd.V_drewN | apply Kd.V_drew)); exact HO339.out) gb342 (Nat.le_of_eq hg.symm)) hb); have n1_ := Aside0.mk (blk_below (g := gb331) (o := .cells #[.int .i64 a0_0, .int .i64 a0_1, .slice A0_2 l0_2.length c0_2] 24 (0, 0)) (bK) hb); have n2_ := Aside0.mk (below_step (bB) hb); have n3_ := Aside0.mk (hbox); have n4_ := Aside0.mk ((by rw [hg]; exact (below_size (bB)) : w.heap.size ≤ gb342)); have n5_ := Aside0.mk ((by rw [hg]; exact (below_size (bB)) : w.heap.size ≤ gb342)); have n6_ := Aside0.mk ((by rw [hg]; exact Nat.ne_of_lt (blk_lt (g := gb331) (o := .cells #[.int .i64 a0_0, .int .i64 a0_1, .slice A0_2 l0_2.length c0_2] 24 (0, 0)) (bK)) : gb331 ≠ gb342)); have n7_ := Aside0.mk ((by rw [hg]; exact Nat.ne_of_gt (blk_lt (g := gb331) (o := .cells #[.int .i64 a0_0, .int .i64 a0_1, .slice A0_2 l0_2.length c0_2] 24 (0, 0)) (bK)) : gb342 ≠ gb331)); clear HO339; clear BK331; clear HB; have HO339 := n0_; have BK331 := n1_; have HB := n2_; have BK342 := n3_; have GW342 := n4_; have GE342 := n5_; have NB331_342 := n6_; have NB342_331 := n7_; clear n0_ n1_ n2_ n3_ n4_ n5_ n6_ n7_; clear hb hbox hg; have hnb41 := NB342_331.out; have hnc41 := NB331_342.out; have hcz42_0 : w40.cell? ⟨gb342, 0, none⟩ = some (.int .i64 0) := (blk_cell BK342.out 0).trans rfl; have hcz42_1 : w40.cell? ⟨gb342, 1, none⟩ = some (.int .i64 0) := (blk_cell BK342.out 1).trans rfl; have hcz42_2 : w40.cell? ⟨gb342, 2, none⟩ = some (.slice none 0 0) := (blk_cell BK342.out 2).trans rfl; have hfz42_0 := blk_frozen BK342.out 0; have hfz42_1 := blk_frozen BK342.out 1; have hfz42_2 := blk_frozen BK342.out 2; obtain ⟨Ao43, co43, eo43⟩ := Kd.V_slice HO339.out; subst eo43; have hcz44_0 : w40.cell? ⟨gb331, 0, none⟩ = some (.int .i64 a0_0) := (blk_cell BK331.out 0).trans rfl; have hcz44_1 : w40.cell? ⟨gb331, 1, none⟩ = some (.int .i64 a0_1) := (blk_cell BK331.out 1).trans rfl; have hcz44_2 : w40.cell? ⟨gb331, 2, none⟩ = some (.slice A0_2 l0_2.length c0_2) := (blk_cell BK331.out 2).trans rfl; have hfz44_0 := blk_frozen BK331.out 0; have hfz44_1 := blk_frozen BK331.out 1; have hfz44_2 := blk_frozen BK331.out 2) | (go_at_call 22; (with_reducible refine (semigrouplaw04_same.calls k t335 t336 _ _ t337 a0_0 a0_1 _ _ l0_2 true _ ?side1 ?side2 ?side3 ?side4 A31.out).mono ?_); (case side1 => refine (Kd.V_reads' (e := 24) (base := w.heap.size) (ok := fun k_ => (k_ ≠ gb331 ∧ k_ ≠ gb342)) (n := t337.length) (c := co43) ?_).2.2; exact (by (with_reducible repeat (first | apply Kd.V_alloc | apply Kd.V_drewN | apply Kd.V_drew)); exact (Kd.V_mono (Kd.V_far (p := ⟨gb342, 2, none⟩) (Kd.V_far (p := ⟨gb342, 1, none⟩) (Kd.V_far (p := ⟨gb342, 0, none⟩) (Kd.V_mono HO339.out (fun k_ hk => (⟨hk, hk.2⟩ : _ ∧ k_ ≠ gb342))) (fun _ hk => hk.2) (.int .i64 t335)) (fun _ hk => hk.2) (.int .i64 t336)) (fun _ hk => hk.2) (.slice Ao43 t337.length co43)) (fun _ h_ => h_.1)))); (case side2 => exact (Kd.V_reads' HO339.out).2.1); (case side3 => exact Kd.C_below HR0_2.out (bB)); (case side4 => exact HC0_2.out); rintro e w45 ⟨rfl, hb⟩; have n0_ := Aside0.mk (Kd.V_below (by (with_reducible repeat (first | apply Kd.V_alloc | apply Kd.V_drewN | apply Kd.V_drew)); exact (Kd.V_mono (Kd.V_far (p := ⟨gb342, 2, none⟩) (Kd.V_far (p := ⟨gb342, 1, none⟩) (Kd.V_far (p := ⟨gb342, 0, none⟩) (Kd.V_mono HO339.out (fun k_ hk => (⟨hk, hk.2⟩ : _ ∧ k_ ≠ gb342))) (fun _ hk => hk.2) (.int .i64 t335)) (fun _ hk => hk.2) (.int .i64 t336)) (fun _ hk => hk.2) (.slice Ao43 t337.length co43)) (fun _ h_ => h_.1))) hb); have n1_ := Aside0.mk (blk_below (g := gb331) (o := .cells #[.int .i64 a0_0, .int .i64 a0_1, .slice A0_2 l0_2.length c0_2] 24 (0, 0)) (by (with_reducible repeat (first | refine blk_drewN ?_ _ | refine blk_drew ?_ | refine blk_alloc ?_ _)); refine blk_far ?_ NB331_342.out _; (with_reducible repeat (first | refine blk_drewN ?_ _ | refine blk_drew ?_ | refine blk_alloc ?_ _)); refine blk_far ?_ NB331_342.out _; (with_reducible repeat (first | refine blk_drewN ?_ _ | refine blk_drew ?_ | refine blk_alloc ?_ _)); refine blk_far ?_ NB331_342.out _; (with_reducible repeat (first | refine blk_drewN ?_ _ | refine blk_drew ?_ | refine blk_alloc ?_ _)); exact BK331.out) hb); have n2_ := Aside0.mk (blk_below (g := gb342) (o := .cells #[.int .i64 t335, .int .i64 t336, .slice Ao43 t337.length co43] 24 (0, 0)) (by (with_reducible repeat (first | refine blk_drewN ?_ _ | refine blk_drew ?_ | refine blk_alloc ?_ _)); refine blk_put (cs := #[.int .i64 t335, .int .i64 t336, .slice none 0 0]) ?_ 2 _ rfl; (with_reducible repeat (first | refine blk_drewN ?_ _ | refine blk_drew ?_ | refine blk_alloc ?_ _)); refine blk_put (cs := #[.int .i64 t335, .int .i64 0, .slice none 0 0]) ?_ 1 _ rfl; (with_reducible repeat (first | refine blk_drewN ?_ _ | refine blk_drew ?_ | refine blk_alloc ?_ _)); refine blk_put (cs := #[.int .i64 0, .int .i64 0, .slice none 0 0]) ?_ 0 _ rfl; (with_reducible repeat (first | refine blk_drewN ?_ _ | refine blk_drew ?_ | refine blk_alloc ?_ _)); exact BK342.out) hb); have n3_ := Aside0.mk (below_step (bB) hb); clear HO339; clear BK331; clear BK342; clear HB; have HO339 := n0_; have BK331 := n1_; have BK342 := n2_; have HB := n3_; clear n0_ n1_ n2_ n3_; (try clear hb); (try clear hb2); (try clear hk); (try clear hi)) | (go_at_call 17; (with_reducible refine (semigrouplaw04_awake.calls k  t345 _ A33.out).mono ?_); rintro e w46 ⟨rfl, hb⟩; have n0_ := Aside0.mk (Kd.V_below (by (with_reducible repeat (first | apply Kd.V_alloc | apply Kd.V_drewN | apply Kd.V_drew)); exact HO339.out) hb); have n1_ := Aside0.mk (blk_below (g := gb331) (o := .cells #[.int .i64 a0_0, .int .i64 a0_1, .slice A0_2 l0_2.length c0_2] 24 (0, 0)) (bK) hb); have n2_ := Aside0.mk (blk_below (g := gb342) (o := .cells #[.int .i64 t335, .int .i64 t336, .slice Ao43 t337.length co43] 24 (0, 0)) (bK) hb); have n3_ := Aside0.mk (below_step (bB) hb); clear HO339; clear BK331; clear BK342; clear HB; have HO339 := n0_; have BK331 := n1_; have BK342 := n2_; have HB := n3_; clear n0_ n1_ n2_ n3_; (try clear hb); (try clear hb2); (try clear hk); (try clear hi)))
     go_ret
     exact ⟨by first | rfl | (simp [errW_none, errW_some] <;> rfl) | (simp [*, errW_none, errW_some] <;> rfl), bB⟩
    ·replace c32 := Bool.eq_false_iff.mpr c32
     subst c32
     have H1 : (some false) = some r := by rw [if_neg (show ¬ (false = true) by decide)] at H; exact H
     clear H
     have H := H1
     clear H1
     obtain rfl := Option.some.inj H
     go_enter Try.func5, Try.ntmps5
     go_wp2_with (first | ((with_reducible refine gate_dst (N := 1) rfl ?_); refine box_event ?hg (N := 1) ?hd (cs := #[.int .i64 a0_0, .int .i64 a0_1, .slice A0_2 l0_2.length c0_2]) (t := 24) ?hr ?_; (case hd => rfl); (case hg => rfl); (case hr => first | (go_simp; done) | (go_simp; rfl)); intro gb331 hg w47 hbox hb; have n0_ := Aside0.mk (below_step (bB) hb); have n1_ := Aside0.mk (hbox); have n2_ := Aside0.mk ((by rw [hg]; exact (below_size (bB)) : w.heap.size ≤ gb331)); have n3_ := Aside0.mk ((by rw [hg]; exact (below_size (bB)) : w.heap.size ≤ gb331)); clear HB; have HB := n0_; have BK331 := n1_; have GW331 := n2_; have GE331 := n3_; clear n0_ n1_ n2_ n3_; clear hb hbox hg; have hcz48_0 : w47.cell? ⟨gb331, 0, none⟩ = some (.int .i64 a0_0) := (blk_cell BK331.out 0).trans rfl; have hcz48_1 : w47.cell? ⟨gb331, 1, none⟩ = some (.int .i64 a0_1) := (blk_cell BK331.out 1).trans rfl; have hcz48_2 : w47.cell? ⟨gb331, 2, none⟩ = some (.slice A0_2 l0_2.length c0_2) := (blk_cell BK331.out 2).trans rfl; have hfz48_0 := blk_frozen BK331.out 0; have hfz48_1 := blk_frozen BK331.out 1; have hfz48_2 := blk_frozen BK331.out 2) | ((with_reducible refine gate_callee (f := 19) rfl ?_); refine goesL_ (some 8) rfl rfl Try.func19 (by kernel_rfl) rfl #[.agg #[.int .i64 a0_0, .int .i64 a0_1, .slice A0_2 l0_2.length c0_2]] rfl (by (try simp only [List.map_toArray, List.map_cons, List.map_nil]); first | done | rfl | (simp only [List.length_drop, List.length_take]; rfl) | (simp only [Int.ofNat_lt, Int.ofNat_le]; rfl)) ?_; (with_reducible refine (semigroupref04_Valid.calls k a0_0 a0_1 _ _ l0_2 true _ ?side1 ?side2 A2.out).mono ?_); (case side1 => repeat (first | exact (Kd.C_below HR0_2.out HB.out) | (with_reducible refine Kd.C_alloc ?_ _) | (with_reducible refine Kd.C_drewN ?_ _) | (with_reducible refine Kd.C_drew ?_))); (case side2 => exact HC0_2.out); rintro e w49 ⟨rfl, hb⟩; refine ⟨_, rfl, ?_⟩; have n0_ := Aside0.mk (blk_below (g := gb331) (o := .cells #[.int .i64 a0_0, .int .i64 a0_1, .slice A0_2 l0_2.length c0_2] 24 (0, 0)) (bK) hb); have n1_ := Aside0.mk (below_step (bB) hb); clear BK331; clear HB; have BK331 := n0_; have HB := n1_; clear n0_ n1_; (try clear hb); (try clear hb2); (try clear hk); (try clear hi); have hcz50_0 : w49.cell? ⟨gb331, 0, none⟩ = some (.int .i64 a0_0) := (blk_cell BK331.out 0).trans rfl; have hcz50_1 : w49.cell? ⟨gb331, 1, none⟩ = some (.int .i64 a0_1) := (blk_cell BK331.out 1).trans rfl; have hcz50_2 : w49.cell? ⟨gb331, 2, none⟩ = some (.slice A0_2 l0_2.length c0_2) := (blk_cell BK331.out 2).trans rfl; have hfz50_0 := blk_frozen BK331.out 0; have hfz50_1 := blk_frozen BK331.out 1; have hfz50_2 := blk_frozen BK331.out 2) | ((with_reducible refine gate_callee (f := 18) rfl ?_); refine goesL_ (some 12) rfl rfl Try.func18 (by kernel_rfl) rfl #[.agg #[.int .i64 a0_0, .int .i64 a0_1, .slice A0_2 l0_2.length c0_2]] rfl (by (try simp only [List.map_toArray, List.map_cons, List.map_nil]); first | done | rfl | (simp only [List.length_drop, List.length_take]; rfl) | (simp only [Int.ofNat_lt, Int.ofNat_le]; rfl)) ?_; (with_reducible refine (expr_Format.calls k a0_0 a0_1 _ _ l0_2 t334 _ ?side1 ?side2 A4.out).mono ?_); (case side1 => repeat (first | exact (Kd.C_below HR0_2.out HB.out) | (with_reducible refine Kd.C_alloc ?_ _) | (with_reducible refine Kd.C_drewN ?_ _) | (with_reducible refine Kd.C_drew ?_))); (case side2 => exact HC0_2.out); rintro e w51 ⟨rfl, hb⟩; refine ⟨_, rfl, ?_⟩; have n0_ := Aside0.mk (blk_below (g := gb331) (o := .cells #[.int .i64 a0_0, .int .i64 a0_1, .slice A0_2 l0_2.length c0_2] 24 (0, 0)) (bK) hb); have n1_ := Aside0.mk (below_step (bB) hb); clear BK331; clear HB; have BK331 := n0_; have HB := n1_; clear n0_ n1_; (try clear hb); (try clear hb2); (try clear hk); (try clear hi)) | ((with_reducible refine gate_callee (f := 21) rfl ?_); (fail_if_success (have chk_ := HO339)); refine goesL_ (some 15) rfl rfl Try.func21 (by kernel_rfl) rfl #[.string t334, .int .i64 6] rfl (by (try simp only [List.map_toArray, List.map_cons, List.map_nil]); first | done | rfl | (simp only [List.length_drop, List.length_take]; rfl) | (simp only [Int.ofNat_lt, Int.ofNat_le]; rfl)) ?_; (with_reducible refine (expr_Parse.calls k t334 6 t335 t336 t337 t340 t341 _ A5.out).mono ?_); rintro e w52 ⟨v338, rfl, ho0, hb⟩; refine ⟨_, rfl, ?_⟩; have n0_ := Aside0.mk (Kd.V_lower (Kd.V_mono (ok' := fun k_ => k_ ≠ gb331) ho0 (fun k_ hk_ => (Kd.freshB (g := gb331) (o := .cells #[.int .i64 a0_0, .int .i64 a0_1, .slice A0_2 l0_2.length c0_2] 24 (0, 0)) (bK) k_ hk_))) (below_size (bB))); have n1_ := Aside0.mk (blk_below (g := gb331) (o := .cells #[.int .i64 a0_0, .int .i64 a0_1, .slice A0_2 l0_2.length c0_2] 24 (0, 0)) (bK) hb); have n2_ := Aside0.mk (below_step (bB) hb); clear BK331; clear HB; have HO339 := n0_; have BK331 := n1_; have HB := n2_; clear n0_ n1_ n2_; (try clear hb); (try clear hb2); (try clear hk); (try clear hi); (try clear ho0)) | ((with_reducible refine gate_dst (N := 4) rfl ?_); refine box_event ?hg (N := 4) ?hd (cs := #[.int .i64 0, .int .i64 0, .slice none 0 0]) (t := 24) ?hr ?_; (case hd => rfl); (case hg => rfl); (case hr => first | (go_simp; done) | (go_simp; rfl)); intro gb342 hg w53 hbox hb; have n0_ := Aside0.mk (Kd.V_below (Kd.V_elderB (by (with_reducible repeat (first | apply Kd.V_alloc | apply Kd.V_drewN | apply Kd.V_drew)); exact HO339.out) gb342 (Nat.le_of_eq hg.symm)) hb); have n1_ := Aside0.mk (blk_below (g := gb331) (o := .cells #[.int .i64 a0_0, .int .i64 a0_1, .slice A0_2 l0_2.length c0_2] 24 (0, 0)) (bK) hb); have n2_ := Aside0.mk (below_step (bB) hb); have n3_ := Aside0.mk (hbox); have n4_ := Aside0.mk ((by rw [hg]; exact (below_size (bB)) : w.heap.size ≤ gb342)); have n5_ := Aside0.mk ((by rw [hg]; exact (below_size (bB)) : w.heap.size ≤ gb342)); have n6_ := Aside0.mk ((by rw [hg]; exact Nat.ne_of_lt (blk_lt (g := gb331) (o := .cells #[.int .i64 a0_0, .int .i64 a0_1, .slice A0_2 l0_2.length c0_2] 24 (0, 0)) (bK)) : gb331 ≠ gb342)); have n7_ := Aside0.mk ((by rw [hg]; exact Nat.ne_of_gt (blk_lt (g := gb331) (o := .cells #[.int .i64 a0_0, .int .i64 a0_1, .slice A0_2 l0_2.length c0_2] 24 (0, 0)) (bK)) : gb342 ≠ gb331)); clear HO339; clear BK331; clear HB; have HO339 := n0_; have BK331 := n1_; have HB := n2_; have BK342 := n3_; have GW342 := n4_; have GE342 := n5_; have NB331_342 := n6_; have NB342_331 := n7_; clear n0_ n1_ n2_ n3_ n4_ n5_ n6_ n7_; clear hb hbox hg; have hnb54 := NB342_331.out; have hnc54 := NB331_342.out; have hcz55_0 : w53.cell? ⟨gb342, 0, none⟩ = some (.int .i64 0) := (blk_cell BK342.out 0).trans rfl; have hcz55_1 : w53.cell? ⟨gb342, 1, none⟩ = some (.int .i64 0) := (blk_cell BK342.out 1).trans rfl; have hcz55_2 : w53.cell? ⟨gb342, 2, none⟩ = some (.slice none 0 0) := (blk_cell BK342.out 2).trans rfl; have hfz55_0 := blk_frozen BK342.out 0; have hfz55_1 := blk_frozen BK342.out 1; have hfz55_2 := blk_frozen BK342.out 2; obtain ⟨Ao56, co56, eo56⟩ := Kd.V_slice HO339.out; subst eo56; have hcz57_0 : w53.cell? ⟨gb331, 0, none⟩ = some (.int .i64 a0_0) := (blk_cell BK331.out 0).trans rfl; have hcz57_1 : w53.cell? ⟨gb331, 1, none⟩ = some (.int .i64 a0_1) := (blk_cell BK331.out 1).trans rfl; have hcz57_2 : w53.cell? ⟨gb331, 2, none⟩ = some (.slice A0_2 l0_2.length c0_2) := (blk_cell BK331.out 2).trans rfl; have hfz57_0 := blk_frozen BK331.out 0; have hfz57_1 := blk_frozen BK331.out 1; have hfz57_2 := blk_frozen BK331.out 2) | (go_at_call 22; (with_reducible refine (semigrouplaw04_same.calls k t335 t336 _ _ t337 a0_0 a0_1 _ _ l0_2 false _ ?side1 ?side2 ?side3 ?side4 A31.out).mono ?_); (case side1 => refine (Kd.V_reads' (e := 24) (base := w.heap.size) (ok := fun k_ => (k_ ≠ gb331 ∧ k_ ≠ gb342)) (n := t337.length) (c := co56) ?_).2.2; exact (by (with_reducible repeat (first | apply Kd.V_alloc | apply Kd.V_drewN | apply Kd.V_drew)); exact (Kd.V_mono (Kd.V_far (p := ⟨gb342, 2, none⟩) (Kd.V_far (p := ⟨gb342, 1, none⟩) (Kd.V_far (p := ⟨gb342, 0, none⟩) (Kd.V_mono HO339.out (fun k_ hk => (⟨hk, hk.2⟩ : _ ∧ k_ ≠ gb342))) (fun _ hk => hk.2) (.int .i64 t335)) (fun _ hk => hk.2) (.int .i64 t336)) (fun _ hk => hk.2) (.slice Ao56 t337.length co56)) (fun _ h_ => h_.1)))); (case side2 => exact (Kd.V_reads' HO339.out).2.1); (case side3 => exact Kd.C_below HR0_2.out (bB)); (case side4 => exact HC0_2.out); rintro e w58 ⟨rfl, hb⟩; have n0_ := Aside0.mk (Kd.V_below (by (with_reducible repeat (first | apply Kd.V_alloc | apply Kd.V_drewN | apply Kd.V_drew)); exact (Kd.V_mono (Kd.V_far (p := ⟨gb342, 2, none⟩) (Kd.V_far (p := ⟨gb342, 1, none⟩) (Kd.V_far (p := ⟨gb342, 0, none⟩) (Kd.V_mono HO339.out (fun k_ hk => (⟨hk, hk.2⟩ : _ ∧ k_ ≠ gb342))) (fun _ hk => hk.2) (.int .i64 t335)) (fun _ hk => hk.2) (.int .i64 t336)) (fun _ hk => hk.2) (.slice Ao56 t337.length co56)) (fun _ h_ => h_.1))) hb); have n1_ := Aside0.mk (blk_below (g := gb331) (o := .cells #[.int .i64 a0_0, .int .i64 a0_1, .slice A0_2 l0_2.length c0_2] 24 (0, 0)) (by (with_reducible repeat (first | refine blk_drewN ?_ _ | refine blk_drew ?_ | refine blk_alloc ?_ _)); refine blk_far ?_ NB331_342.out _; (with_reducible repeat (first | refine blk_drewN ?_ _ | refine blk_drew ?_ | refine blk_alloc ?_ _)); refine blk_far ?_ NB331_342.out _; (with_reducible repeat (first | refine blk_drewN ?_ _ | refine blk_drew ?_ | refine blk_alloc ?_ _)); refine blk_far ?_ NB331_342.out _; (with_reducible repeat (first | refine blk_drewN ?_ _ | refine blk_drew ?_ | refine blk_alloc ?_ _)); exact BK331.out) hb); have n2_ := Aside0.mk (blk_below (g := gb342) (o := .cells #[.int .i64 t335, .int .i64 t336, .slice Ao56 t337.length co56] 24 (0, 0)) (by (with_reducible repeat (first | refine blk_drewN ?_ _ | refine blk_drew ?_ | refine blk_alloc ?_ _)); refine blk_put (cs := #[.int .i64 t335, .int .i64 t336, .slice none 0 0]) ?_ 2 _ rfl; (with_reducible repeat (first | refine blk_drewN ?_ _ | refine blk_drew ?_ | refine blk_alloc ?_ _)); refine blk_put (cs := #[.int .i64 t335, .int .i64 0, .slice none 0 0]) ?_ 1 _ rfl; (with_reducible repeat (first | refine blk_drewN ?_ _ | refine blk_drew ?_ | refine blk_alloc ?_ _)); refine blk_put (cs := #[.int .i64 0, .int .i64 0, .slice none 0 0]) ?_ 0 _ rfl; (with_reducible repeat (first | refine blk_drewN ?_ _ | refine blk_drew ?_ | refine blk_alloc ?_ _)); exact BK342.out) hb); have n3_ := Aside0.mk (below_step (bB) hb); clear HO339; clear BK331; clear BK342; clear HB; have HO339 := n0_; have BK331 := n1_; have BK342 := n2_; have HB := n3_; clear n0_ n1_ n2_ n3_; (try clear hb); (try clear hb2); (try clear hk); (try clear hi)))
     go_ret
     exact ⟨by first | rfl | (simp [errW_none, errW_some] <;> rfl) | (simp [*, errW_none, errW_some] <;> rfl), bB⟩
   ·rw [if_neg c30] at H
    have c30b0 : (t341 == 0) = false := beq_eq_false_iff_ne.mpr c30
    have c30b1 : (t341 != 0) = true := bne_iff_ne.mpr c30
    obtain rfl := Option.some.inj H
    go_enter Try.func5, Try.ntmps5
    go_wp2_with (first | ((with_reducible refine gate_dst (N := 1) rfl ?_); refine box_event ?hg (N := 1) ?hd (cs := #[.int .i64 a0_0, .int .i64 a0_1, .slice A0_2 l0_2.length c0_2]) (t := 24) ?hr ?_; (case hd => rfl); (case hg => rfl); (case hr => first | (go_simp; done) | (go_simp; rfl)); intro gb331 hg w59 hbox hb; have n0_ := Aside0.mk (below_step (bB) hb); have n1_ := Aside0.mk (hbox); have n2_ := Aside0.mk ((by rw [hg]; exact (below_size (bB)) : w.heap.size ≤ gb331)); have n3_ := Aside0.mk ((by rw [hg]; exact (below_size (bB)) : w.heap.size ≤ gb331)); clear HB; have HB := n0_; have BK331 := n1_; have GW331 := n2_; have GE331 := n3_; clear n0_ n1_ n2_ n3_; clear hb hbox hg; have hcz60_0 : w59.cell? ⟨gb331, 0, none⟩ = some (.int .i64 a0_0) := (blk_cell BK331.out 0).trans rfl; have hcz60_1 : w59.cell? ⟨gb331, 1, none⟩ = some (.int .i64 a0_1) := (blk_cell BK331.out 1).trans rfl; have hcz60_2 : w59.cell? ⟨gb331, 2, none⟩ = some (.slice A0_2 l0_2.length c0_2) := (blk_cell BK331.out 2).trans rfl; have hfz60_0 := blk_frozen BK331.out 0; have hfz60_1 := blk_frozen BK331.out 1; have hfz60_2 := blk_frozen BK331.out 2) | ((with_reducible refine gate_callee (f := 19) rfl ?_); refine goesL_ (some 8) rfl rfl Try.func19 (by kernel_rfl) rfl #[.agg #[.int .i64 a0_0, .int .i64 a0_1, .slice A0_2 l0_2.length c0_2]] rfl (by (try simp only [List.map_toArray, List.map_cons, List.map_nil]); first | done | rfl | (simp only [List.length_drop, List.length_take]; rfl) | (simp only [Int.ofNat_lt, Int.ofNat_le]; rfl)) ?_; (with_reducible refine (semigroupref04_Valid.calls k a0_0 a0_1 _ _ l0_2 true _ ?side1 ?side2 A2.out).mono ?_); (case side1 => repeat (first | exact (Kd.C_below HR0_2.out HB.out) | (with_reducible refine Kd.C_alloc ?_ _) | (with_reducible refine Kd.C_drewN ?_ _) | (with_reducible refine Kd.C_drew ?_))); (case side2 => exact HC0_2.out); rintro e w61 ⟨rfl, hb⟩; refine ⟨_, rfl, ?_⟩; have n0_ := Aside0.mk (blk_below (g := gb331) (o := .cells #[.int .i64 a0_0, .int .i64 a0_1, .slice A0_2 l0_2.length c0_2] 24 (0, 0)) (bK) hb); have n1_ := Aside0.mk (below_step (bB) hb); clear BK331; clear HB; have BK331 := n0_; have HB := n1_; clear n0_ n1_; (try clear hb); (try clear hb2); (try clear hk); (try clear hi); have hcz62_0 : w61.cell? ⟨gb331, 0, none⟩ = some (.int .i64 a0_0) := (blk_cell BK331.out 0).trans rfl; have hcz62_1 : w61.cell? ⟨gb331, 1, none⟩ = some (.int .i64 a0_1) := (blk_cell BK331.out 1).trans rfl; have hcz62_2 : w61.cell? ⟨gb331, 2, none⟩ = some (.slice A0_2 l0_2.length c0_2) := (blk_cell BK331.out 2).trans rfl; have hfz62_0 := blk_frozen BK331.out 0; have hfz62_1 := blk_frozen BK331.out 1; have hfz62_2 := blk_frozen BK331.out 2) | ((with_reducible refine gate_callee (f := 18) rfl ?_); refine goesL_ (some 12) rfl rfl Try.func18 (by kernel_rfl) rfl #[.agg #[.int .i64 a0_0, .int .i64 a0_1, .slice A0_2 l0_2.length c0_2]] rfl (by (try simp only [List.map_toArray, List.map_cons, List.map_nil]); first | done | rfl | (simp only [List.length_drop, List.length_take]; rfl) | (simp only [Int.ofNat_lt, Int.ofNat_le]; rfl)) ?_; (with_reducible refine (expr_Format.calls k a0_0 a0_1 _ _ l0_2 t334 _ ?side1 ?side2 A4.out).mono ?_); (case side1 => repeat (first | exact (Kd.C_below HR0_2.out HB.out) | (with_reducible refine Kd.C_alloc ?_ _) | (with_reducible refine Kd.C_drewN ?_ _) | (with_reducible refine Kd.C_drew ?_))); (case side2 => exact HC0_2.out); rintro e w63 ⟨rfl, hb⟩; refine ⟨_, rfl, ?_⟩; have n0_ := Aside0.mk (blk_below (g := gb331) (o := .cells #[.int .i64 a0_0, .int .i64 a0_1, .slice A0_2 l0_2.length c0_2] 24 (0, 0)) (bK) hb); have n1_ := Aside0.mk (below_step (bB) hb); clear BK331; clear HB; have BK331 := n0_; have HB := n1_; clear n0_ n1_; (try clear hb); (try clear hb2); (try clear hk); (try clear hi)) | ((with_reducible refine gate_callee (f := 21) rfl ?_); (fail_if_success (have chk_ := HO339)); refine goesL_ (some 15) rfl rfl Try.func21 (by kernel_rfl) rfl #[.string t334, .int .i64 6] rfl (by (try simp only [List.map_toArray, List.map_cons, List.map_nil]); first | done | rfl | (simp only [List.length_drop, List.length_take]; rfl) | (simp only [Int.ofNat_lt, Int.ofNat_le]; rfl)) ?_; (with_reducible refine (expr_Parse.calls k t334 6 t335 t336 t337 t340 t341 _ A5.out).mono ?_); rintro e w64 ⟨v338, rfl, ho0, hb⟩; refine ⟨_, rfl, ?_⟩; have n0_ := Aside0.mk (Kd.V_lower (Kd.V_mono (ok' := fun k_ => k_ ≠ gb331) ho0 (fun k_ hk_ => (Kd.freshB (g := gb331) (o := .cells #[.int .i64 a0_0, .int .i64 a0_1, .slice A0_2 l0_2.length c0_2] 24 (0, 0)) (bK) k_ hk_))) (below_size (bB))); have n1_ := Aside0.mk (blk_below (g := gb331) (o := .cells #[.int .i64 a0_0, .int .i64 a0_1, .slice A0_2 l0_2.length c0_2] 24 (0, 0)) (bK) hb); have n2_ := Aside0.mk (below_step (bB) hb); clear BK331; clear HB; have HO339 := n0_; have BK331 := n1_; have HB := n2_; clear n0_ n1_ n2_; (try clear hb); (try clear hb2); (try clear hk); (try clear hi); (try clear ho0)) | ((with_reducible refine gate_dst (N := 4) rfl ?_); refine box_event ?hg (N := 4) ?hd (cs := #[.int .i64 0, .int .i64 0, .slice none 0 0]) (t := 24) ?hr ?_; (case hd => rfl); (case hg => rfl); (case hr => first | (go_simp; done) | (go_simp; rfl)); intro gb342 hg w65 hbox hb; have n0_ := Aside0.mk (Kd.V_below (Kd.V_elderB (by (with_reducible repeat (first | apply Kd.V_alloc | apply Kd.V_drewN | apply Kd.V_drew)); exact HO339.out) gb342 (Nat.le_of_eq hg.symm)) hb); have n1_ := Aside0.mk (blk_below (g := gb331) (o := .cells #[.int .i64 a0_0, .int .i64 a0_1, .slice A0_2 l0_2.length c0_2] 24 (0, 0)) (bK) hb); have n2_ := Aside0.mk (below_step (bB) hb); have n3_ := Aside0.mk (hbox); have n4_ := Aside0.mk ((by rw [hg]; exact (below_size (bB)) : w.heap.size ≤ gb342)); have n5_ := Aside0.mk ((by rw [hg]; exact (below_size (bB)) : w.heap.size ≤ gb342)); have n6_ := Aside0.mk ((by rw [hg]; exact Nat.ne_of_lt (blk_lt (g := gb331) (o := .cells #[.int .i64 a0_0, .int .i64 a0_1, .slice A0_2 l0_2.length c0_2] 24 (0, 0)) (bK)) : gb331 ≠ gb342)); have n7_ := Aside0.mk ((by rw [hg]; exact Nat.ne_of_gt (blk_lt (g := gb331) (o := .cells #[.int .i64 a0_0, .int .i64 a0_1, .slice A0_2 l0_2.length c0_2] 24 (0, 0)) (bK)) : gb342 ≠ gb331)); clear HO339; clear BK331; clear HB; have HO339 := n0_; have BK331 := n1_; have HB := n2_; have BK342 := n3_; have GW342 := n4_; have GE342 := n5_; have NB331_342 := n6_; have NB342_331 := n7_; clear n0_ n1_ n2_ n3_ n4_ n5_ n6_ n7_; clear hb hbox hg; have hnb66 := NB342_331.out; have hnc66 := NB331_342.out; have hcz67_0 : w65.cell? ⟨gb342, 0, none⟩ = some (.int .i64 0) := (blk_cell BK342.out 0).trans rfl; have hcz67_1 : w65.cell? ⟨gb342, 1, none⟩ = some (.int .i64 0) := (blk_cell BK342.out 1).trans rfl; have hcz67_2 : w65.cell? ⟨gb342, 2, none⟩ = some (.slice none 0 0) := (blk_cell BK342.out 2).trans rfl; have hfz67_0 := blk_frozen BK342.out 0; have hfz67_1 := blk_frozen BK342.out 1; have hfz67_2 := blk_frozen BK342.out 2; obtain ⟨Ao68, co68, eo68⟩ := Kd.V_slice HO339.out; subst eo68))
    go_ret
    exact ⟨by first | rfl | (simp [errW_none, errW_some] <;> rfl) | (simp [*, errW_none, errW_some] <;> rfl), bB⟩
 ·replace c3 := Bool.eq_false_iff.mpr c3
  subst c3
  have H1 : ((semigrouplaw04_awake.f k).bind fun t333 => (some t333)) = some r := by rw [if_neg (show ¬ (false = true) by decide)] at H; exact H
  clear H
  have H := H1
  clear H1
  replace H := Option.bind_eq_some_iff.mp H
  obtain ⟨t333, A690, H⟩ := H
  replace H : (some t333) = some r := H
  have A69 := Aside0.mk A690
  clear A690
  obtain rfl := Option.some.inj H
  go_enter Try.func5, Try.ntmps5
  go_wp2_with (first | ((with_reducible refine gate_dst (N := 1) rfl ?_); refine box_event ?hg (N := 1) ?hd (cs := #[.int .i64 a0_0, .int .i64 a0_1, .slice A0_2 l0_2.length c0_2]) (t := 24) ?hr ?_; (case hd => rfl); (case hg => rfl); (case hr => first | (go_simp; done) | (go_simp; rfl)); intro gb331 hg w70 hbox hb; have n0_ := Aside0.mk (below_step (bB) hb); have n1_ := Aside0.mk (hbox); have n2_ := Aside0.mk ((by rw [hg]; exact (below_size (bB)) : w.heap.size ≤ gb331)); have n3_ := Aside0.mk ((by rw [hg]; exact (below_size (bB)) : w.heap.size ≤ gb331)); clear HB; have HB := n0_; have BK331 := n1_; have GW331 := n2_; have GE331 := n3_; clear n0_ n1_ n2_ n3_; clear hb hbox hg; have hcz71_0 : w70.cell? ⟨gb331, 0, none⟩ = some (.int .i64 a0_0) := (blk_cell BK331.out 0).trans rfl; have hcz71_1 : w70.cell? ⟨gb331, 1, none⟩ = some (.int .i64 a0_1) := (blk_cell BK331.out 1).trans rfl; have hcz71_2 : w70.cell? ⟨gb331, 2, none⟩ = some (.slice A0_2 l0_2.length c0_2) := (blk_cell BK331.out 2).trans rfl; have hfz71_0 := blk_frozen BK331.out 0; have hfz71_1 := blk_frozen BK331.out 1; have hfz71_2 := blk_frozen BK331.out 2) | ((with_reducible refine gate_callee (f := 19) rfl ?_); refine goesL_ (some 8) rfl rfl Try.func19 (by kernel_rfl) rfl #[.agg #[.int .i64 a0_0, .int .i64 a0_1, .slice A0_2 l0_2.length c0_2]] rfl (by (try simp only [List.map_toArray, List.map_cons, List.map_nil]); first | done | rfl | (simp only [List.length_drop, List.length_take]; rfl) | (simp only [Int.ofNat_lt, Int.ofNat_le]; rfl)) ?_; (with_reducible refine (semigroupref04_Valid.calls k a0_0 a0_1 _ _ l0_2 false _ ?side1 ?side2 A2.out).mono ?_); (case side1 => repeat (first | exact (Kd.C_below HR0_2.out HB.out) | (with_reducible refine Kd.C_alloc ?_ _) | (with_reducible refine Kd.C_drewN ?_ _) | (with_reducible refine Kd.C_drew ?_))); (case side2 => exact HC0_2.out); rintro e w72 ⟨rfl, hb⟩; refine ⟨_, rfl, ?_⟩; have n0_ := Aside0.mk (blk_below (g := gb331) (o := .cells #[.int .i64 a0_0, .int .i64 a0_1, .slice A0_2 l0_2.length c0_2] 24 (0, 0)) (bK) hb); have n1_ := Aside0.mk (below_step (bB) hb); clear BK331; clear HB; have BK331 := n0_; have HB := n1_; clear n0_ n1_; (try clear hb); (try clear hb2); (try clear hk); (try clear hi)) | ((with_reducible refine gate_callee (f := 17) rfl ?_); refine goesL_ (some 10) rfl rfl Try.func17 (by kernel_rfl) rfl #[] rfl (by (try simp only [List.map_toArray, List.map_cons, List.map_nil]); first | done | rfl | (simp only [List.length_drop, List.length_take]; rfl) | (simp only [Int.ofNat_lt, Int.ofNat_le]; rfl)) ?_; (with_reducible refine (semigrouplaw04_awake.calls k  t333 _ A69.out).mono ?_); rintro e w73 ⟨rfl, hb⟩; refine ⟨_, rfl, ?_⟩; have n0_ := Aside0.mk (blk_below (g := gb331) (o := .cells #[.int .i64 a0_0, .int .i64 a0_1, .slice A0_2 l0_2.length c0_2] 24 (0, 0)) (bK) hb); have n1_ := Aside0.mk (below_step (bB) hb); clear BK331; clear HB; have BK331 := n0_; have HB := n1_; clear n0_ n1_; (try clear hb); (try clear hb2); (try clear hk); (try clear hi)))
  go_ret
  exact ⟨by first | rfl | (simp [errW_none, errW_some] <;> rfl) | (simp [*, errW_none, errW_some] <;> rfl), bB⟩
end Go.Proofs.Ytjofkebiacaciaa.PAll
end
section
namespace Go.Proofs.Ytjofkebiacaciaa.PAll
open Go.RowKit Go.Proofs.YtjofkebiacaciaaW.PrintWords Go.Proofs.YtjofkebiacaciaaW.PrintLast Go.Proofs.YtjofkebiacaciaaW.PrintMore
attribute [local go_sem] max2_int min2_int max_two min_two max_three min_three max_four min_four
set_option linter.unusedVariables false
set_option linter.unusedSimpArgs false
def semigroupref04_level.f (a0 : Int) : Option (Int) := if a0 = 4 then (some 1) else (if a0 = 6 then (some 2) else (if a0 = 5 then (some 3) else (if a0 = 8 then (some 4) else (if a0 = 7 then (some 5) else (some 6)))))
set_option maxHeartbeats 8000000 in
set_option maxRecDepth 100000 in
theorem semigroupref04_level.calls (a0 : Int) (r : Int) (w : World) (h : semigroupref04_level.f a0 = some r) :
  Calls Try.prog 70 #[.int .i64 a0] w fun e w' => e = .returned (.int .i64 r) ∧ Drawn0 w w' := by
 have H : (if a0 = 4 then (some 1) else (if a0 = 6 then (some 2) else (if a0 = 5 then (some 3) else (if a0 = 8 then (some 4) else (if a0 = 7 then (some 5) else (some 6)))))) = some r := h
 clear h
 by_cases c2 : a0 = 4
 ·rw [if_pos c2] at H
  have c2b0 : (a0 == 4) = true := beq_iff_eq.mpr c2
  have c2b1 : (a0 != 4) = false := bne_eq_false_iff_eq.mpr c2
  clear c2
  obtain rfl := Option.some.inj H
  go_enter Try.func70, Try.ntmps70
  go_wp2
  go_ret
  exact ⟨by first | rfl | (simp; done) | (simp [*]; done), by repeat (first | exact Drawn0.refl _ | apply Drawn0.step)⟩
 ·rw [if_neg c2] at H
  have c2b0 : (a0 == 4) = false := beq_eq_false_iff_ne.mpr c2
  have c2b1 : (a0 != 4) = true := bne_iff_ne.mpr c2
  by_cases c3 : a0 = 6
  ·rw [if_pos c3] at H
   have c3b0 : (a0 == 6) = true := beq_iff_eq.mpr c3
   have c3b1 : (a0 != 6) = false := bne_eq_false_iff_eq.mpr c3
   clear c3
   obtain rfl := Option.some.inj H
   go_enter Try.func70, Try.ntmps70
   go_wp2
   go_ret
   exact ⟨by first | rfl | (simp; done) | (simp [*]; done), by repeat (first | exact Drawn0.refl _ | apply Drawn0.step)⟩
  ·rw [if_neg c3] at H
   have c3b0 : (a0 == 6) = false := beq_eq_false_iff_ne.mpr c3
   have c3b1 : (a0 != 6) = true := bne_iff_ne.mpr c3
   by_cases c4 : a0 = 5
   ·rw [if_pos c4] at H
    have c4b0 : (a0 == 5) = true := beq_iff_eq.mpr c4
    have c4b1 : (a0 != 5) = false := bne_eq_false_iff_eq.mpr c4
    clear c4
    obtain rfl := Option.some.inj H
    go_enter Try.func70, Try.ntmps70
    go_wp2
    go_ret
    exact ⟨by first | rfl | (simp; done) | (simp [*]; done), by repeat (first | exact Drawn0.refl _ | apply Drawn0.step)⟩
   ·rw [if_neg c4] at H
    have c4b0 : (a0 == 5) = false := beq_eq_false_iff_ne.mpr c4
    have c4b1 : (a0 != 5) = true := bne_iff_ne.mpr c4
    by_cases c5 : a0 = 8
    ·rw [if_pos c5] at H
     have c5b0 : (a0 == 8) = true := beq_iff_eq.mpr c5
     have c5b1 : (a0 != 8) = false := bne_eq_false_iff_eq.mpr c5
     clear c5
     obtain rfl := Option.some.inj H
     go_enter Try.func70, Try.ntmps70
     go_wp2
     go_ret
     exact ⟨by first | rfl | (simp; done) | (simp [*]; done), by repeat (first | exact Drawn0.refl _ | apply Drawn0.step)⟩
    ·rw [if_neg c5] at H
     have c5b0 : (a0 == 8) = false := beq_eq_false_iff_ne.mpr c5
     have c5b1 : (a0 != 8) = true := bne_iff_ne.mpr c5
     by_cases c6 : a0 = 7
     ·rw [if_pos c6] at H
      have c6b0 : (a0 == 7) = true := beq_iff_eq.mpr c6
      have c6b1 : (a0 != 7) = false := bne_eq_false_iff_eq.mpr c6
      clear c6
      obtain rfl := Option.some.inj H
      go_enter Try.func70, Try.ntmps70
      go_wp2
      go_ret
      exact ⟨by first | rfl | (simp; done) | (simp [*]; done), by repeat (first | exact Drawn0.refl _ | apply Drawn0.step)⟩
     ·rw [if_neg c6] at H
      have c6b0 : (a0 == 7) = false := beq_eq_false_iff_ne.mpr c6
      have c6b1 : (a0 != 7) = true := bne_iff_ne.mpr c6
      obtain rfl := Option.some.inj H
      go_enter Try.func70, Try.ntmps70
      go_wp2
      go_ret
      exact ⟨by first | rfl | (simp; done) | (simp [*]; done), by repeat (first | exact Drawn0.refl _ | apply Drawn0.step)⟩
end Go.Proofs.Ytjofkebiacaciaa.PAll
end
section
namespace Go.Proofs.Ytjofkebiacaciaa.PAll
open Go.RowKit Go.Proofs.YtjofkebiacaciaaW.PrintWords Go.Proofs.YtjofkebiacaciaaW.PrintLast Go.Proofs.YtjofkebiacaciaaW.PrintMore
attribute [local go_sem] max2_int min2_int max_two min_two max_three min_three max_four min_four
set_option linter.unusedVariables false
set_option linter.unusedSimpArgs false
mutual
def expr_size.l0 : Nat → Int → List (S24) → Int → Int → Option (Int)
 | 0, _, _, _, _ => none
 | k + 1, x3, x7, x8, x9 => if x9 < x8 then (if 0 ≤ x9 then (if x9 < (x7.length : Int) then ((expr_size.f k ((rd_T24 x7 x9).f0) ((rd_T24 x7 x9).f1) ((rd_T24 x7 x9).f2)).bind fun t372 => (expr_size.l0 k (wrap64 (x3 + t372)) x7 x8 (wrap64 (x9 + 1)))) else (none)) else (none)) else (some x3)
def expr_size.f : Nat → Int → Int → List (S24) → Option (Int)
 | 0, _, _, _ => none
 | k + 1, a0_0, a0_1, l0_2 => expr_size.l0 k 1 l0_2 (l0_2.length : Int) 0
end
theorem expr_size.mono_l : ∀ k, (∀ y0 y1 y2, LeO (expr_size.f k y0 y1 y2) (expr_size.f (k + 1) y0 y1 y2)) ∧ (∀ y0 y1 y2 y3, LeO (expr_size.l0 k y0 y1 y2 y3) (expr_size.l0 (k + 1) y0 y1 y2 y3))
 | 0 => ⟨fun _ _ _ r h => by simp [expr_size.f] at h, fun _ _ _ _ r h => by simp [expr_size.l0] at h⟩
 | k + 1 => by
  obtain ⟨ih0, ih1⟩ := expr_size.mono_l k
  refine ⟨?_, ?_⟩
  ·intro y0 y1 y2
   unfold expr_size.f
   repeat' first
   | (with_reducible exact ih0 _ _ _)
   | (with_reducible exact ih1 _ _ _ _)
   | (with_reducible exact LeO.refl _)
   | (with_reducible exact LeO.none _)
   | (with_reducible refine LeO.ite ?_ ?_)
   | (with_reducible refine LeO.bind ?_ (fun _ => ?_))
   | exact ih0 _ _ _
   | exact ih1 _ _ _ _
   | exact LeO.none _
   | refine LeO.ite ?_ ?_
   | refine LeO.bind ?_ (fun _ => ?_)
  ·intro y0 y1 y2 y3
   unfold expr_size.l0
   repeat' first
   | (with_reducible exact ih0 _ _ _)
   | (with_reducible exact ih1 _ _ _ _)
   | (with_reducible exact LeO.refl _)
   | (with_reducible exact LeO.none _)
   | (with_reducible refine LeO.ite ?_ ?_)
   | (with_reducible refine LeO.bind ?_ (fun _ => ?_))
   | exact ih0 _ _ _
   | exact ih1 _ _ _ _
   | exact LeO.none _
   | refine LeO.ite ?_ ?_
   | refine LeO.bind ?_ (fun _ => ?_)
theorem expr_size.mono : ∀ a0 a1 a2 k, LeO (expr_size.f k a0 a1 a2) (expr_size.f (k + 1) a0 a1 a2) := by
 intro a0 a1 a2 k
 obtain ⟨ih0, ih1⟩ := expr_size.mono_l k
 exact ih0 a0 a1 a2
set_option maxHeartbeats 8000000 in
set_option maxRecDepth 100000 in
theorem expr_size.calls (k : Nat) : ∀ (a0_0 : Int) (a0_1 : Int) (A0_2 : Option Addr) (c0_2 : Nat) (l0_2 : List (S24)) (r : Int) (w : World) (hr0_2 : Kd.C k24 w A0_2 l0_2.length l0_2) (hc0_2 : l0_2.length ≤ c0_2) (h : expr_size.f k a0_0 a0_1 l0_2 = some r),
  Calls Try.prog 54 #[.agg #[.int .i64 a0_0, .int .i64 a0_1, .slice A0_2 l0_2.length c0_2]] w fun e w' => e = .returned (.int .i64 r) ∧ Below w.heap.size w w' := by
 induction k using Nat.strongRecOn with
 | _ k ih =>
 intro a0_0 a0_1 A0_2 c0_2 l0_2 r w hr0_2 hc0_2 h
 cases k with
 | zero => exact absurd h (by simp [expr_size.f])
 | succ k =>
 simp only [expr_size.f] at h
 have hu24 := Try.underlying24
 have HR0_2 := Aside0.mk hr0_2
 have HC0_2 := Aside0.mk hc0_2
 clear hr0_2 hc0_2
 have HB := Aside0.mk (Below.refl w.heap.size w)
 have H : (expr_size.l0 k 1 l0_2 (l0_2.length : Int) 0) = some r := h
 clear h
 have H' := Aside0.mk H
 clear H
 go_enter Try.func54, Try.ntmps54
 go_wp2_with (first | ((with_reducible refine gate_dst (N := 1) rfl ?_); refine box_event ?hg (N := 1) ?hd (cs := #[.int .i64 a0_0, .int .i64 a0_1, .slice A0_2 l0_2.length c0_2]) (t := 24) ?hr ?_; (case hd => rfl); (case hg => rfl); (case hr => first | (go_simp; done) | (go_simp; rfl)); intro gb369 hg w2 hbox hb; have n0_ := Aside0.mk (below_step (bB) hb); have n1_ := Aside0.mk (hbox); have n2_ := Aside0.mk ((by rw [hg]; exact (below_size (bB)) : w.heap.size ≤ gb369)); have n3_ := Aside0.mk ((by rw [hg]; exact (below_size (bB)) : w.heap.size ≤ gb369)); clear HB; have HB := n0_; have BK369 := n1_; have GW369 := n2_; have GE369 := n3_; clear n0_ n1_ n2_ n3_; clear hb hbox hg; have hcz3_0 : w2.cell? ⟨gb369, 0, none⟩ = some (.int .i64 a0_0) := (blk_cell BK369.out 0).trans rfl; have hcz3_1 : w2.cell? ⟨gb369, 1, none⟩ = some (.int .i64 a0_1) := (blk_cell BK369.out 1).trans rfl; have hcz3_2 : w2.cell? ⟨gb369, 2, none⟩ = some (.slice A0_2 l0_2.length c0_2) := (blk_cell BK369.out 2).trans rfl; have hfz3_0 := blk_frozen BK369.out 0; have hfz3_1 := blk_frozen BK369.out 1; have hfz3_2 := blk_frozen BK369.out 2))
 go_loopg [3, 9] k (fun kq v3 v9 w' => ∃ (x3_1 : Int) (x9_1 : Int), v3 = .int .i64 x3_1 ∧ v9 = .int .i64 x9_1 ∧ Aside0 (expr_size.l0 kq x3_1 l0_2 (l0_2.length : Int) x9_1 = some r) ∧ Aside0 (kq ≤ k) ∧ Aside0 (w'.heap[gb369]? = some (.cells #[.int .i64 a0_0, .int .i64 a0_1, (.slice A0_2 l0_2.length c0_2)] 24 (0, 0))) ∧ Aside0 (Below w.heap.size w w'))
 case atStart => exact ⟨(1), (0), (by first | rfl | (simp; done) | (simp [*]; done)), (by first | rfl | (simp; done) | (simp [*]; done)), H', ⟨Nat.le_refl _⟩, ⟨bK⟩, ⟨bB⟩⟩
 case round =>
  clear H'
  try clear p2
  try clear hcz3_0
  try clear hcz3_1
  try clear hcz3_2
  try clear hfz3_0
  try clear hfz3_1
  try clear hfz3_2
  obtain ⟨x3_1, x9_1, rfl, rfl, HA, HK1, BK369, HB⟩ := hrel
  cases gk with
  | zero => exact absurd HA.out (by simp [expr_size.l0])
  | succ k1 =>
   have H := HA.out
   clear HA
   simp only [expr_size.l0] at H
   by_cases c4 : x9_1 < (l0_2.length : Int)
   ·rw [if_pos c4] at H
    have c4b0 : decide (x9_1 < (l0_2.length : Int)) = true := decide_eq_true c4
    clear c4
    by_cases c5 : 0 ≤ x9_1
    ·rw [if_pos c5] at H
     have c5b0 : decide (0 ≤ x9_1) = true := decide_eq_true c5
     clear c5
     by_cases c6 : x9_1 < (l0_2.length : Int)
     ·rw [if_pos c6] at H
      have c6b0 : decide (x9_1 < (l0_2.length : Int)) = true := decide_eq_true c6
      clear c6
      replace H := Option.bind_eq_some_iff.mp H
      obtain ⟨t372, A70, H⟩ := H
      replace H : (expr_size.l0 k1 (wrap64 (x3_1 + t372)) l0_2 (l0_2.length : Int) (wrap64 (x9_1 + 1))) = some r := H
      have A7 := Aside0.mk A70
      clear A70
      have H' := Aside0.mk H
      clear H
      have p370 : 0 ≤ (x9_1 : Int) := of_decide_eq_true (by first | (with_reducible assumption) | assumption)
      have q370 : x9_1 < (l0_2.length : Int) := of_decide_eq_true (by first | (with_reducible assumption) | assumption)
      obtain ⟨ad370, A370_2, c370_2, e370, hx370_0, hx370_1, hx370_2, hl370_2, hi370_2⟩ := at_T24 HR0_2.out x9_1 p370 q370
      cases e370
      replace hx370_0 := (HB.out.cell (World.block_lt_of_cell? w _ hx370_0)).trans hx370_0
      replace hx370_1 := (HB.out.cell (World.block_lt_of_cell? w _ hx370_1)).trans hx370_1
      replace hx370_2 := (HB.out.cell (World.block_lt_of_cell? w _ hx370_2)).trans hx370_2
      have HR370_2 := Aside0.mk hi370_2
      have HC370_2 := Aside0.mk hl370_2
      clear hi370_2 hl370_2
      replace p370 := eq_true p370
      replace q370 := eq_true q370
      go_wp2_with (first | ((with_reducible refine gate_dst (N := 5) rfl ?_); refine box_event ?hg (N := 5) ?hd (cs := #[.int .i64 0, .int .i64 0, .slice none 0 0]) (t := 24) ?hr ?_; (case hd => rfl); (case hg => rfl); (case hr => first | (go_simp; done) | (go_simp; rfl)); intro gb371 hg w8 hbox hb; have n0_ := Aside0.mk (blk_below (g := gb369) (o := .cells #[.int .i64 a0_0, .int .i64 a0_1, .slice (some ad370) l0_2.length c0_2] 24 (0, 0)) (bK) hb); have n1_ := Aside0.mk (below_step (bB) hb); have n2_ := Aside0.mk (hbox); have n3_ := Aside0.mk ((by rw [hg]; exact (below_size (bB)) : w.heap.size ≤ gb371)); have n4_ := Aside0.mk ((by rw [hg]; exact (below_size (bB)) : w.heap.size ≤ gb371)); have n5_ := Aside0.mk ((by rw [hg]; exact Nat.ne_of_lt (blk_lt (g := gb369) (o := .cells #[.int .i64 a0_0, .int .i64 a0_1, .slice (some ad370) l0_2.length c0_2] 24 (0, 0)) (bK)) : gb369 ≠ gb371)); have n6_ := Aside0.mk ((by rw [hg]; exact Nat.ne_of_gt (blk_lt (g := gb369) (o := .cells #[.int .i64 a0_0, .int .i64 a0_1, .slice (some ad370) l0_2.length c0_2] 24 (0, 0)) (bK)) : gb371 ≠ gb369)); clear BK369; clear HB; have BK369 := n0_; have HB := n1_; have BK371 := n2_; have GW371 := n3_; have GE371 := n4_; have NB369_371 := n5_; have NB371_369 := n6_; clear n0_ n1_ n2_ n3_ n4_ n5_ n6_; clear hb hbox hg; have hnb9 := NB371_369.out; have hnc9 := NB369_371.out; have hcz10_0 : w8.cell? ⟨gb371, 0, none⟩ = some (.int .i64 0) := (blk_cell BK371.out 0).trans rfl; have hcz10_1 : w8.cell? ⟨gb371, 1, none⟩ = some (.int .i64 0) := (blk_cell BK371.out 1).trans rfl; have hcz10_2 : w8.cell? ⟨gb371, 2, none⟩ = some (.slice none 0 0) := (blk_cell BK371.out 2).trans rfl; have hfz10_0 := blk_frozen BK371.out 0; have hfz10_1 := blk_frozen BK371.out 1; have hfz10_2 := blk_frozen BK371.out 2) | ((with_reducible refine gate_callee (f := 54) rfl ?_); refine goesL_ (some 15) rfl rfl Try.func54 (by kernel_rfl) rfl #[.agg #[.int .i64 ((rd_T24 l0_2 x9_1).f0), .int .i64 ((rd_T24 l0_2 x9_1).f1), .slice A370_2 ((rd_T24 l0_2 x9_1).f2).length c370_2]] rfl (by (try simp only [List.map_toArray, List.map_cons, List.map_nil]); first | done | rfl | (simp only [List.length_drop, List.length_take]; rfl) | (simp only [Int.ofNat_lt, Int.ofNat_le]; rfl)) ?_; (with_reducible refine (ih k1 (by have := HK1.out; omega) ((rd_T24 l0_2 x9_1).f0) ((rd_T24 l0_2 x9_1).f1) _ _ ((rd_T24 l0_2 x9_1).f2) t372 _ ?side1 ?side2 A7.out).mono ?_); (case side1 => exact Kd.C_below HR370_2.out (bB)); (case side2 => exact HC370_2.out); rintro e w11 ⟨rfl, hb⟩; refine ⟨_, rfl, ?_⟩; have n0_ := Aside0.mk (blk_below (g := gb369) (o := .cells #[.int .i64 a0_0, .int .i64 a0_1, .slice (some ad370) l0_2.length c0_2] 24 (0, 0)) (by (with_reducible repeat (first | refine blk_drewN ?_ _ | refine blk_drew ?_ | refine blk_alloc ?_ _)); refine blk_far ?_ NB369_371.out _; (with_reducible repeat (first | refine blk_drewN ?_ _ | refine blk_drew ?_ | refine blk_alloc ?_ _)); refine blk_far ?_ NB369_371.out _; (with_reducible repeat (first | refine blk_drewN ?_ _ | refine blk_drew ?_ | refine blk_alloc ?_ _)); refine blk_far ?_ NB369_371.out _; (with_reducible repeat (first | refine blk_drewN ?_ _ | refine blk_drew ?_ | refine blk_alloc ?_ _)); exact BK369.out) hb); have n1_ := Aside0.mk (blk_below (g := gb371) (o := .cells #[.int .i64 ((rd_T24 l0_2 x9_1).f0), .int .i64 ((rd_T24 l0_2 x9_1).f1), .slice A370_2 ((rd_T24 l0_2 x9_1).f2).length c370_2] 24 (0, 0)) (by (with_reducible repeat (first | refine blk_drewN ?_ _ | refine blk_drew ?_ | refine blk_alloc ?_ _)); refine blk_put (cs := #[.int .i64 ((rd_T24 l0_2 x9_1).f0), .int .i64 ((rd_T24 l0_2 x9_1).f1), .slice none 0 0]) ?_ 2 _ rfl; (with_reducible repeat (first | refine blk_drewN ?_ _ | refine blk_drew ?_ | refine blk_alloc ?_ _)); refine blk_put (cs := #[.int .i64 ((rd_T24 l0_2 x9_1).f0), .int .i64 0, .slice none 0 0]) ?_ 1 _ rfl; (with_reducible repeat (first | refine blk_drewN ?_ _ | refine blk_drew ?_ | refine blk_alloc ?_ _)); refine blk_put (cs := #[.int .i64 0, .int .i64 0, .slice none 0 0]) ?_ 0 _ rfl; (with_reducible repeat (first | refine blk_drewN ?_ _ | refine blk_drew ?_ | refine blk_alloc ?_ _)); exact BK371.out) hb); have n2_ := Aside0.mk (below_step (bB) hb); clear BK369; clear BK371; clear HB; have BK369 := n0_; have BK371 := n1_; have HB := n2_; clear n0_ n1_ n2_; (try clear hb); (try clear hb2); (try clear hk); (try clear hi)))
      (first | go_roundg k1 | ((simp only [add_plain] at *); go_roundg k1))
      case measure => have := HK1.out; omega
      case rel => exact ⟨(wrap64 (x3_1 + t372)), (wrap64 (x9_1 + 1)), (by first | rfl | (simp; done) | (simp [*]; done)), (by first | rfl | (simp; done) | (simp [*]; done)), H', ⟨by have := HK1.out; omega⟩, ⟨bK⟩, ⟨bB⟩⟩
     ·rw [if_neg c6] at H
      exact absurd H (by simp)
    ·rw [if_neg c5] at H
     exact absurd H (by simp)
   ·rw [if_neg c4] at H
    have c4b0 : decide (x9_1 < (l0_2.length : Int)) = false := decide_eq_false c4
    clear c4
    obtain rfl := Option.some.inj H
    go_wp2
    go_ret
    exact ⟨by first | rfl | (simp [errW_none, errW_some] <;> rfl) | (simp [*, errW_none, errW_some] <;> rfl), bB⟩
end Go.Proofs.Ytjofkebiacaciaa.PAll
end
section
namespace Go.Proofs.Ytjofkebiacaciaa.PAll
open Go.RowKit Go.Proofs.YtjofkebiacaciaaW.PrintWords Go.Proofs.YtjofkebiacaciaaW.PrintLast Go.Proofs.YtjofkebiacaciaaW.PrintMore
attribute [local go_sem] max2_int min2_int max_two min_two max_three min_three max_four min_four
set_option linter.unusedVariables false
set_option linter.unusedSimpArgs false
def expr_Size.f (k : Nat) (a0_0 : Int) (a0_1 : Int) (l0_2 : List (S24)) : Option (Int) := (expr_valid.f k a0_0 a0_1 l0_2).bind fun t374 => (if t374 = true then ((expr_size.f k a0_0 a0_1 l0_2).bind fun t375 => (some t375)) else (some 0))
theorem expr_Size.mono : ∀ a0 a1 a2 k, LeO (expr_Size.f k a0 a1 a2) (expr_Size.f (k + 1) a0 a1 a2) := by
 intro a0 a1 a2 k
 unfold expr_Size.f
 repeat' first
   | (with_reducible exact expr_size.mono _ _ _ _)
   | (with_reducible exact expr_valid.mono _ _ _ _)
   | (with_reducible exact LeO.refl _)
   | (with_reducible exact LeO.none _)
   | (with_reducible refine LeO.ite ?_ ?_)
   | (with_reducible refine LeO.bind ?_ (fun _ => ?_))
   | exact expr_size.mono _ _ _ _
   | exact expr_valid.mono _ _ _ _
   | exact LeO.none _
   | refine LeO.ite ?_ ?_
   | refine LeO.bind ?_ (fun _ => ?_)
set_option maxHeartbeats 8000000 in
set_option maxRecDepth 100000 in
theorem expr_Size.calls (k : Nat) (a0_0 : Int) (a0_1 : Int) (A0_2 : Option Addr) (c0_2 : Nat) (l0_2 : List (S24)) (r : Int) (w : World) (hr0_2 : Kd.C k24 w A0_2 l0_2.length l0_2) (hc0_2 : l0_2.length ≤ c0_2) (h : expr_Size.f k a0_0 a0_1 l0_2 = some r) :
  Calls Try.prog 25 #[.agg #[.int .i64 a0_0, .int .i64 a0_1, .slice A0_2 l0_2.length c0_2]] w fun e w' => e = .returned (.int .i64 r) ∧ Below w.heap.size w w' := by
 have hu24 := Try.underlying24
 have HR0_2 := Aside0.mk hr0_2
 have HC0_2 := Aside0.mk hc0_2
 clear hr0_2 hc0_2
 have HB := Aside0.mk (Below.refl w.heap.size w)
 have H : ((expr_valid.f k a0_0 a0_1 l0_2).bind fun t374 => (if t374 = true then ((expr_size.f k a0_0 a0_1 l0_2).bind fun t375 => (some t375)) else (some 0))) = some r := h
 clear h
 replace H := Option.bind_eq_some_iff.mp H
 obtain ⟨t374, A20, H⟩ := H
 replace H : (if t374 = true then ((expr_size.f k a0_0 a0_1 l0_2).bind fun t375 => (some t375)) else (some 0)) = some r := H
 have A2 := Aside0.mk A20
 clear A20
 by_cases c3 : t374 = true
 ·subst c3
  have H1 : ((expr_size.f k a0_0 a0_1 l0_2).bind fun t375 => (some t375)) = some r := by rw [if_pos rfl] at H; exact H
  clear H
  have H := H1
  clear H1
  replace H := Option.bind_eq_some_iff.mp H
  obtain ⟨t375, A40, H⟩ := H
  replace H : (some t375) = some r := H
  have A4 := Aside0.mk A40
  clear A40
  obtain rfl := Option.some.inj H
  go_enter Try.func25, Try.ntmps25
  go_wp2_with (first | ((with_reducible refine gate_dst (N := 1) rfl ?_); refine box_event ?hg (N := 1) ?hd (cs := #[.int .i64 a0_0, .int .i64 a0_1, .slice A0_2 l0_2.length c0_2]) (t := 24) ?hr ?_; (case hd => rfl); (case hg => rfl); (case hr => first | (go_simp; done) | (go_simp; rfl)); intro gb373 hg w5 hbox hb; have n0_ := Aside0.mk (below_step (bB) hb); have n1_ := Aside0.mk (hbox); have n2_ := Aside0.mk ((by rw [hg]; exact (below_size (bB)) : w.heap.size ≤ gb373)); have n3_ := Aside0.mk ((by rw [hg]; exact (below_size (bB)) : w.heap.size ≤ gb373)); clear HB; have HB := n0_; have BK373 := n1_; have GW373 := n2_; have GE373 := n3_; clear n0_ n1_ n2_ n3_; clear hb hbox hg; have hcz6_0 : w5.cell? ⟨gb373, 0, none⟩ = some (.int .i64 a0_0) := (blk_cell BK373.out 0).trans rfl; have hcz6_1 : w5.cell? ⟨gb373, 1, none⟩ = some (.int .i64 a0_1) := (blk_cell BK373.out 1).trans rfl; have hcz6_2 : w5.cell? ⟨gb373, 2, none⟩ = some (.slice A0_2 l0_2.length c0_2) := (blk_cell BK373.out 2).trans rfl; have hfz6_0 := blk_frozen BK373.out 0; have hfz6_1 := blk_frozen BK373.out 1; have hfz6_2 := blk_frozen BK373.out 2) | ((with_reducible refine gate_callee (f := 46) rfl ?_); refine goesL_ (some 4) rfl rfl Try.func46 (by kernel_rfl) rfl #[.agg #[.int .i64 a0_0, .int .i64 a0_1, .slice A0_2 l0_2.length c0_2]] rfl (by (try simp only [List.map_toArray, List.map_cons, List.map_nil]); first | done | rfl | (simp only [List.length_drop, List.length_take]; rfl) | (simp only [Int.ofNat_lt, Int.ofNat_le]; rfl)) ?_; (with_reducible refine (expr_valid.calls k a0_0 a0_1 _ _ l0_2 true _ ?side1 ?side2 A2.out).mono ?_); (case side1 => repeat (first | exact (Kd.C_below HR0_2.out HB.out) | (with_reducible refine Kd.C_alloc ?_ _) | (with_reducible refine Kd.C_drewN ?_ _) | (with_reducible refine Kd.C_drew ?_))); (case side2 => exact HC0_2.out); rintro e w7 ⟨rfl, hb⟩; refine ⟨_, rfl, ?_⟩; have n0_ := Aside0.mk (blk_below (g := gb373) (o := .cells #[.int .i64 a0_0, .int .i64 a0_1, .slice A0_2 l0_2.length c0_2] 24 (0, 0)) (bK) hb); have n1_ := Aside0.mk (below_step (bB) hb); clear BK373; clear HB; have BK373 := n0_; have HB := n1_; clear n0_ n1_; (try clear hb); (try clear hb2); (try clear hk); (try clear hi); have hcz8_0 : w7.cell? ⟨gb373, 0, none⟩ = some (.int .i64 a0_0) := (blk_cell BK373.out 0).trans rfl; have hcz8_1 : w7.cell? ⟨gb373, 1, none⟩ = some (.int .i64 a0_1) := (blk_cell BK373.out 1).trans rfl; have hcz8_2 : w7.cell? ⟨gb373, 2, none⟩ = some (.slice A0_2 l0_2.length c0_2) := (blk_cell BK373.out 2).trans rfl; have hfz8_0 := blk_frozen BK373.out 0; have hfz8_1 := blk_frozen BK373.out 1; have hfz8_2 := blk_frozen BK373.out 2) | ((with_reducible refine gate_callee (f := 54) rfl ?_); refine goesL_ (some 7) rfl rfl Try.func54 (by kernel_rfl) rfl #[.agg #[.int .i64 a0_0, .int .i64 a0_1, .slice A0_2 l0_2.length c0_2]] rfl (by (try simp only [List.map_toArray, List.map_cons, List.map_nil]); first | done | rfl | (simp only [List.length_drop, List.length_take]; rfl) | (simp only [Int.ofNat_lt, Int.ofNat_le]; rfl)) ?_; (with_reducible refine (expr_size.calls k a0_0 a0_1 _ _ l0_2 t375 _ ?side1 ?side2 A4.out).mono ?_); (case side1 => repeat (first | exact (Kd.C_below HR0_2.out HB.out) | (with_reducible refine Kd.C_alloc ?_ _) | (with_reducible refine Kd.C_drewN ?_ _) | (with_reducible refine Kd.C_drew ?_))); (case side2 => exact HC0_2.out); rintro e w9 ⟨rfl, hb⟩; refine ⟨_, rfl, ?_⟩; have n0_ := Aside0.mk (blk_below (g := gb373) (o := .cells #[.int .i64 a0_0, .int .i64 a0_1, .slice A0_2 l0_2.length c0_2] 24 (0, 0)) (bK) hb); have n1_ := Aside0.mk (below_step (bB) hb); clear BK373; clear HB; have BK373 := n0_; have HB := n1_; clear n0_ n1_; (try clear hb); (try clear hb2); (try clear hk); (try clear hi)))
  go_ret
  exact ⟨by first | rfl | (simp [errW_none, errW_some] <;> rfl) | (simp [*, errW_none, errW_some] <;> rfl), bB⟩
 ·replace c3 := Bool.eq_false_iff.mpr c3
  subst c3
  have H1 : (some 0) = some r := by rw [if_neg (show ¬ (false = true) by decide)] at H; exact H
  clear H
  have H := H1
  clear H1
  obtain rfl := Option.some.inj H
  go_enter Try.func25, Try.ntmps25
  go_wp2_with (first | ((with_reducible refine gate_dst (N := 1) rfl ?_); refine box_event ?hg (N := 1) ?hd (cs := #[.int .i64 a0_0, .int .i64 a0_1, .slice A0_2 l0_2.length c0_2]) (t := 24) ?hr ?_; (case hd => rfl); (case hg => rfl); (case hr => first | (go_simp; done) | (go_simp; rfl)); intro gb373 hg w10 hbox hb; have n0_ := Aside0.mk (below_step (bB) hb); have n1_ := Aside0.mk (hbox); have n2_ := Aside0.mk ((by rw [hg]; exact (below_size (bB)) : w.heap.size ≤ gb373)); have n3_ := Aside0.mk ((by rw [hg]; exact (below_size (bB)) : w.heap.size ≤ gb373)); clear HB; have HB := n0_; have BK373 := n1_; have GW373 := n2_; have GE373 := n3_; clear n0_ n1_ n2_ n3_; clear hb hbox hg; have hcz11_0 : w10.cell? ⟨gb373, 0, none⟩ = some (.int .i64 a0_0) := (blk_cell BK373.out 0).trans rfl; have hcz11_1 : w10.cell? ⟨gb373, 1, none⟩ = some (.int .i64 a0_1) := (blk_cell BK373.out 1).trans rfl; have hcz11_2 : w10.cell? ⟨gb373, 2, none⟩ = some (.slice A0_2 l0_2.length c0_2) := (blk_cell BK373.out 2).trans rfl; have hfz11_0 := blk_frozen BK373.out 0; have hfz11_1 := blk_frozen BK373.out 1; have hfz11_2 := blk_frozen BK373.out 2) | ((with_reducible refine gate_callee (f := 46) rfl ?_); refine goesL_ (some 4) rfl rfl Try.func46 (by kernel_rfl) rfl #[.agg #[.int .i64 a0_0, .int .i64 a0_1, .slice A0_2 l0_2.length c0_2]] rfl (by (try simp only [List.map_toArray, List.map_cons, List.map_nil]); first | done | rfl | (simp only [List.length_drop, List.length_take]; rfl) | (simp only [Int.ofNat_lt, Int.ofNat_le]; rfl)) ?_; (with_reducible refine (expr_valid.calls k a0_0 a0_1 _ _ l0_2 false _ ?side1 ?side2 A2.out).mono ?_); (case side1 => repeat (first | exact (Kd.C_below HR0_2.out HB.out) | (with_reducible refine Kd.C_alloc ?_ _) | (with_reducible refine Kd.C_drewN ?_ _) | (with_reducible refine Kd.C_drew ?_))); (case side2 => exact HC0_2.out); rintro e w12 ⟨rfl, hb⟩; refine ⟨_, rfl, ?_⟩; have n0_ := Aside0.mk (blk_below (g := gb373) (o := .cells #[.int .i64 a0_0, .int .i64 a0_1, .slice A0_2 l0_2.length c0_2] 24 (0, 0)) (bK) hb); have n1_ := Aside0.mk (below_step (bB) hb); clear BK373; clear HB; have BK373 := n0_; have HB := n1_; clear n0_ n1_; (try clear hb); (try clear hb2); (try clear hk); (try clear hi)))
  go_ret
  exact ⟨by first | rfl | (simp [errW_none, errW_some] <;> rfl) | (simp [*, errW_none, errW_some] <;> rfl), bB⟩
end Go.Proofs.Ytjofkebiacaciaa.PAll
end
section
namespace Go.Proofs.Ytjofkebiacaciaa.PAll
open Go.RowKit Go.Proofs.YtjofkebiacaciaaW.PrintWords Go.Proofs.YtjofkebiacaciaaW.PrintLast Go.Proofs.YtjofkebiacaciaaW.PrintMore
attribute [local go_sem] max2_int min2_int max_two min_two max_three min_three max_four min_four
set_option linter.unusedVariables false
set_option linter.unusedSimpArgs false
mutual
def expr_depth.l0 : Nat → Int → List (S24) → Int → Int → Option (Int)
 | 0, _, _, _, _ => none
 | k + 1, x3, x7, x8, x9 => if x9 < x8 then (if 0 ≤ x9 then (if x9 < (x7.length : Int) then ((expr_depth.f k ((rd_T24 x7 x9).f0) ((rd_T24 x7 x9).f1) ((rd_T24 x7 x9).f2)).bind fun t379 => (expr_depth.l0 k (mx x3 t379) x7 x8 (wrap64 (x9 + 1)))) else (none)) else (none)) else (some (wrap64 (x3 + 1)))
def expr_depth.f : Nat → Int → Int → List (S24) → Option (Int)
 | 0, _, _, _ => none
 | k + 1, a0_0, a0_1, l0_2 => expr_depth.l0 k 0 l0_2 (l0_2.length : Int) 0
end
theorem expr_depth.mono_l : ∀ k, (∀ y0 y1 y2, LeO (expr_depth.f k y0 y1 y2) (expr_depth.f (k + 1) y0 y1 y2)) ∧ (∀ y0 y1 y2 y3, LeO (expr_depth.l0 k y0 y1 y2 y3) (expr_depth.l0 (k + 1) y0 y1 y2 y3))
 | 0 => ⟨fun _ _ _ r h => by simp [expr_depth.f] at h, fun _ _ _ _ r h => by simp [expr_depth.l0] at h⟩
 | k + 1 => by
  obtain ⟨ih0, ih1⟩ := expr_depth.mono_l k
  refine ⟨?_, ?_⟩
  ·intro y0 y1 y2
   unfold expr_depth.f
   repeat' first
   | (with_reducible exact ih0 _ _ _)
   | (with_reducible exact ih1 _ _ _ _)
   | (with_reducible exact LeO.refl _)
   | (with_reducible exact LeO.none _)
   | (with_reducible refine LeO.ite ?_ ?_)
   | (with_reducible refine LeO.bind ?_ (fun _ => ?_))
   | exact ih0 _ _ _
   | exact ih1 _ _ _ _
   | exact LeO.none _
   | refine LeO.ite ?_ ?_
   | refine LeO.bind ?_ (fun _ => ?_)
  ·intro y0 y1 y2 y3
   unfold expr_depth.l0
   repeat' first
   | (with_reducible exact ih0 _ _ _)
   | (with_reducible exact ih1 _ _ _ _)
   | (with_reducible exact LeO.refl _)
   | (with_reducible exact LeO.none _)
   | (with_reducible refine LeO.ite ?_ ?_)
   | (with_reducible refine LeO.bind ?_ (fun _ => ?_))
   | exact ih0 _ _ _
   | exact ih1 _ _ _ _
   | exact LeO.none _
   | refine LeO.ite ?_ ?_
   | refine LeO.bind ?_ (fun _ => ?_)
theorem expr_depth.mono : ∀ a0 a1 a2 k, LeO (expr_depth.f k a0 a1 a2) (expr_depth.f (k + 1) a0 a1 a2) := by
 intro a0 a1 a2 k
 obtain ⟨ih0, ih1⟩ := expr_depth.mono_l k
 exact ih0 a0 a1 a2
set_option maxHeartbeats 8000000 in
set_option maxRecDepth 100000 in
theorem expr_depth.calls (k : Nat) : ∀ (a0_0 : Int) (a0_1 : Int) (A0_2 : Option Addr) (c0_2 : Nat) (l0_2 : List (S24)) (r : Int) (w : World) (hr0_2 : Kd.C k24 w A0_2 l0_2.length l0_2) (hc0_2 : l0_2.length ≤ c0_2) (h : expr_depth.f k a0_0 a0_1 l0_2 = some r),
  Calls Try.prog 55 #[.agg #[.int .i64 a0_0, .int .i64 a0_1, .slice A0_2 l0_2.length c0_2]] w fun e w' => e = .returned (.int .i64 r) ∧ Below w.heap.size w w' := by
 induction k using Nat.strongRecOn with
 | _ k ih =>
 intro a0_0 a0_1 A0_2 c0_2 l0_2 r w hr0_2 hc0_2 h
 cases k with
 | zero => exact absurd h (by simp [expr_depth.f])
 | succ k =>
 simp only [expr_depth.f] at h
 have hu24 := Try.underlying24
 have HR0_2 := Aside0.mk hr0_2
 have HC0_2 := Aside0.mk hc0_2
 clear hr0_2 hc0_2
 have HB := Aside0.mk (Below.refl w.heap.size w)
 have H : (expr_depth.l0 k 0 l0_2 (l0_2.length : Int) 0) = some r := h
 clear h
 have H' := Aside0.mk H
 clear H
 go_enter Try.func55, Try.ntmps55
 go_wp2_with (first | ((with_reducible refine gate_dst (N := 1) rfl ?_); refine box_event ?hg (N := 1) ?hd (cs := #[.int .i64 a0_0, .int .i64 a0_1, .slice A0_2 l0_2.length c0_2]) (t := 24) ?hr ?_; (case hd => rfl); (case hg => rfl); (case hr => first | (go_simp; done) | (go_simp; rfl)); intro gb376 hg w2 hbox hb; have n0_ := Aside0.mk (below_step (bB) hb); have n1_ := Aside0.mk (hbox); have n2_ := Aside0.mk ((by rw [hg]; exact (below_size (bB)) : w.heap.size ≤ gb376)); have n3_ := Aside0.mk ((by rw [hg]; exact (below_size (bB)) : w.heap.size ≤ gb376)); clear HB; have HB := n0_; have BK376 := n1_; have GW376 := n2_; have GE376 := n3_; clear n0_ n1_ n2_ n3_; clear hb hbox hg; have hcz3_0 : w2.cell? ⟨gb376, 0, none⟩ = some (.int .i64 a0_0) := (blk_cell BK376.out 0).trans rfl; have hcz3_1 : w2.cell? ⟨gb376, 1, none⟩ = some (.int .i64 a0_1) := (blk_cell BK376.out 1).trans rfl; have hcz3_2 : w2.cell? ⟨gb376, 2, none⟩ = some (.slice A0_2 l0_2.length c0_2) := (blk_cell BK376.out 2).trans rfl; have hfz3_0 := blk_frozen BK376.out 0; have hfz3_1 := blk_frozen BK376.out 1; have hfz3_2 := blk_frozen BK376.out 2))
 go_loopg [3, 9] k (fun kq v3 v9 w' => ∃ (x3_1 : Int) (x9_1 : Int), v3 = .int .i64 x3_1 ∧ v9 = .int .i64 x9_1 ∧ Aside0 (expr_depth.l0 kq x3_1 l0_2 (l0_2.length : Int) x9_1 = some r) ∧ Aside0 (kq ≤ k) ∧ Aside0 (w'.heap[gb376]? = some (.cells #[.int .i64 a0_0, .int .i64 a0_1, (.slice A0_2 l0_2.length c0_2)] 24 (0, 0))) ∧ Aside0 (Below w.heap.size w w'))
 case atStart => exact ⟨(0), (0), (by first | rfl | (simp; done) | (simp [*]; done)), (by first | rfl | (simp; done) | (simp [*]; done)), H', ⟨Nat.le_refl _⟩, ⟨bK⟩, ⟨bB⟩⟩
 case round =>
  clear H'
  try clear p2
  try clear hcz3_0
  try clear hcz3_1
  try clear hcz3_2
  try clear hfz3_0
  try clear hfz3_1
  try clear hfz3_2
  obtain ⟨x3_1, x9_1, rfl, rfl, HA, HK1, BK376, HB⟩ := hrel
  cases gk with
  | zero => exact absurd HA.out (by simp [expr_depth.l0])
  | succ k1 =>
   have H := HA.out
   clear HA
   simp only [expr_depth.l0] at H
   by_cases c4 : x9_1 < (l0_2.length : Int)
   ·rw [if_pos c4] at H
    have c4b0 : decide (x9_1 < (l0_2.length : Int)) = true := decide_eq_true c4
    clear c4
    by_cases c5 : 0 ≤ x9_1
    ·rw [if_pos c5] at H
     have c5b0 : decide (0 ≤ x9_1) = true := decide_eq_true c5
     clear c5
     by_cases c6 : x9_1 < (l0_2.length : Int)
     ·rw [if_pos c6] at H
      have c6b0 : decide (x9_1 < (l0_2.length : Int)) = true := decide_eq_true c6
      clear c6
      replace H := Option.bind_eq_some_iff.mp H
      obtain ⟨t379, A70, H⟩ := H
      replace H : (expr_depth.l0 k1 (mx x3_1 t379) l0_2 (l0_2.length : Int) (wrap64 (x9_1 + 1))) = some r := H
      have A7 := Aside0.mk A70
      clear A70
      obtain ⟨ji8, hji8⟩ : ∃ j_ : Int, (mx x3_1 t379) = j_ := ⟨_, rfl⟩
      replace H : (expr_depth.l0 k1 ji8 l0_2 (l0_2.length : Int) (wrap64 (x9_1 + 1))) = some r := by first | (rw [hji8] at H; exact H) | (simp only [hji8] at H ⊢; exact H)
      (try rw [hji8] at A7)
      have hji8_ : (if x3_1 < t379 then t379 else x3_1) = ji8 := hji8
      have H' := Aside0.mk H
      clear H
      have p377 : 0 ≤ (x9_1 : Int) := of_decide_eq_true (by first | (with_reducible assumption) | assumption)
      have q377 : x9_1 < (l0_2.length : Int) := of_decide_eq_true (by first | (with_reducible assumption) | assumption)
      obtain ⟨ad377, A377_2, c377_2, e377, hx377_0, hx377_1, hx377_2, hl377_2, hi377_2⟩ := at_T24 HR0_2.out x9_1 p377 q377
      cases e377
      replace hx377_0 := (HB.out.cell (World.block_lt_of_cell? w _ hx377_0)).trans hx377_0
      replace hx377_1 := (HB.out.cell (World.block_lt_of_cell? w _ hx377_1)).trans hx377_1
      replace hx377_2 := (HB.out.cell (World.block_lt_of_cell? w _ hx377_2)).trans hx377_2
      have HR377_2 := Aside0.mk hi377_2
      have HC377_2 := Aside0.mk hl377_2
      clear hi377_2 hl377_2
      replace p377 := eq_true p377
      replace q377 := eq_true q377
      go_wp2_with (first | ((with_reducible refine gate_dst (N := 5) rfl ?_); refine box_event ?hg (N := 5) ?hd (cs := #[.int .i64 0, .int .i64 0, .slice none 0 0]) (t := 24) ?hr ?_; (case hd => rfl); (case hg => rfl); (case hr => first | (go_simp; done) | (go_simp; rfl)); intro gb378 hg w9 hbox hb; have n0_ := Aside0.mk (blk_below (g := gb376) (o := .cells #[.int .i64 a0_0, .int .i64 a0_1, .slice (some ad377) l0_2.length c0_2] 24 (0, 0)) (bK) hb); have n1_ := Aside0.mk (below_step (bB) hb); have n2_ := Aside0.mk (hbox); have n3_ := Aside0.mk ((by rw [hg]; exact (below_size (bB)) : w.heap.size ≤ gb378)); have n4_ := Aside0.mk ((by rw [hg]; exact (below_size (bB)) : w.heap.size ≤ gb378)); have n5_ := Aside0.mk ((by rw [hg]; exact Nat.ne_of_lt (blk_lt (g := gb376) (o := .cells #[.int .i64 a0_0, .int .i64 a0_1, .slice (some ad377) l0_2.length c0_2] 24 (0, 0)) (bK)) : gb376 ≠ gb378)); have n6_ := Aside0.mk ((by rw [hg]; exact Nat.ne_of_gt (blk_lt (g := gb376) (o := .cells #[.int .i64 a0_0, .int .i64 a0_1, .slice (some ad377) l0_2.length c0_2] 24 (0, 0)) (bK)) : gb378 ≠ gb376)); clear BK376; clear HB; have BK376 := n0_; have HB := n1_; have BK378 := n2_; have GW378 := n3_; have GE378 := n4_; have NB376_378 := n5_; have NB378_376 := n6_; clear n0_ n1_ n2_ n3_ n4_ n5_ n6_; clear hb hbox hg; have hnb10 := NB378_376.out; have hnc10 := NB376_378.out; have hcz11_0 : w9.cell? ⟨gb378, 0, none⟩ = some (.int .i64 0) := (blk_cell BK378.out 0).trans rfl; have hcz11_1 : w9.cell? ⟨gb378, 1, none⟩ = some (.int .i64 0) := (blk_cell BK378.out 1).trans rfl; have hcz11_2 : w9.cell? ⟨gb378, 2, none⟩ = some (.slice none 0 0) := (blk_cell BK378.out 2).trans rfl; have hfz11_0 := blk_frozen BK378.out 0; have hfz11_1 := blk_frozen BK378.out 1; have hfz11_2 := blk_frozen BK378.out 2) | ((with_reducible refine gate_callee (f := 55) rfl ?_); refine goesL_ (some 15) rfl rfl Try.func55 (by kernel_rfl) rfl #[.agg #[.int .i64 ((rd_T24 l0_2 x9_1).f0), .int .i64 ((rd_T24 l0_2 x9_1).f1), .slice A377_2 ((rd_T24 l0_2 x9_1).f2).length c377_2]] rfl (by (try simp only [List.map_toArray, List.map_cons, List.map_nil]); first | done | rfl | (simp only [List.length_drop, List.length_take]; rfl) | (simp only [Int.ofNat_lt, Int.ofNat_le]; rfl)) ?_; (with_reducible refine (ih k1 (by have := HK1.out; omega) ((rd_T24 l0_2 x9_1).f0) ((rd_T24 l0_2 x9_1).f1) _ _ ((rd_T24 l0_2 x9_1).f2) t379 _ ?side1 ?side2 A7.out).mono ?_); (case side1 => exact Kd.C_below HR377_2.out (bB)); (case side2 => exact HC377_2.out); rintro e w12 ⟨rfl, hb⟩; refine ⟨_, rfl, ?_⟩; have n0_ := Aside0.mk (blk_below (g := gb376) (o := .cells #[.int .i64 a0_0, .int .i64 a0_1, .slice (some ad377) l0_2.length c0_2] 24 (0, 0)) (by (with_reducible repeat (first | refine blk_drewN ?_ _ | refine blk_drew ?_ | refine blk_alloc ?_ _)); refine blk_far ?_ NB376_378.out _; (with_reducible repeat (first | refine blk_drewN ?_ _ | refine blk_drew ?_ | refine blk_alloc ?_ _)); refine blk_far ?_ NB376_378.out _; (with_reducible repeat (first | refine blk_drewN ?_ _ | refine blk_drew ?_ | refine blk_alloc ?_ _)); refine blk_far ?_ NB376_378.out _; (with_reducible repeat (first | refine blk_drewN ?_ _ | refine blk_drew ?_ | refine blk_alloc ?_ _)); exact BK376.out) hb); have n1_ := Aside0.mk (blk_below (g := gb378) (o := .cells #[.int .i64 ((rd_T24 l0_2 x9_1).f0), .int .i64 ((rd_T24 l0_2 x9_1).f1), .slice A377_2 ((rd_T24 l0_2 x9_1).f2).length c377_2] 24 (0, 0)) (by (with_reducible repeat (first | refine blk_drewN ?_ _ | refine blk_drew ?_ | refine blk_alloc ?_ _)); refine blk_put (cs := #[.int .i64 ((rd_T24 l0_2 x9_1).f0), .int .i64 ((rd_T24 l0_2 x9_1).f1), .slice none 0 0]) ?_ 2 _ rfl; (with_reducible repeat (first | refine blk_drewN ?_ _ | refine blk_drew ?_ | refine blk_alloc ?_ _)); refine blk_put (cs := #[.int .i64 ((rd_T24 l0_2 x9_1).f0), .int .i64 0, .slice none 0 0]) ?_ 1 _ rfl; (with_reducible repeat (first | refine blk_drewN ?_ _ | refine blk_drew ?_ | refine blk_alloc ?_ _)); refine blk_put (cs := #[.int .i64 0, .int .i64 0, .slice none 0 0]) ?_ 0 _ rfl; (with_reducible repeat (first | refine blk_drewN ?_ _ | refine blk_drew ?_ | refine blk_alloc ?_ _)); exact BK378.out) hb); have n2_ := Aside0.mk (below_step (bB) hb); clear BK376; clear BK378; clear HB; have BK376 := n0_; have BK378 := n1_; have HB := n2_; clear n0_ n1_ n2_; (try clear hb); (try clear hb2); (try clear hk); (try clear hi)))
      (first | go_roundg k1 | ((simp only [add_plain] at *); go_roundg k1))
      case measure => have := HK1.out; omega
      case rel => exact ⟨(ji8), (wrap64 (x9_1 + 1)), (by first | rfl | (simp; done) | (simp only [← hji8] <;> (first | rfl | simp)) | (simp [*]; done)), (by first | rfl | (simp; done) | (simp [*]; done)), H', ⟨by have := HK1.out; omega⟩, ⟨bK⟩, ⟨bB⟩⟩
     ·rw [if_neg c6] at H
      exact absurd H (by simp)
    ·rw [if_neg c5] at H
     exact absurd H (by simp)
   ·rw [if_neg c4] at H
    have c4b0 : decide (x9_1 < (l0_2.length : Int)) = false := decide_eq_false c4
    clear c4
    obtain rfl := Option.some.inj H
    go_wp2
    go_ret
    exact ⟨by first | rfl | (simp [errW_none, errW_some] <;> rfl) | (simp [*, errW_none, errW_some] <;> rfl), bB⟩
end Go.Proofs.Ytjofkebiacaciaa.PAll
end
section
namespace Go.Proofs.Ytjofkebiacaciaa.PAll
open Go.RowKit Go.Proofs.YtjofkebiacaciaaW.PrintWords Go.Proofs.YtjofkebiacaciaaW.PrintLast Go.Proofs.YtjofkebiacaciaaW.PrintMore
attribute [local go_sem] max2_int min2_int max_two min_two max_three min_three max_four min_four
set_option linter.unusedVariables false
set_option linter.unusedSimpArgs false
def expr_Depth.f (k : Nat) (a0_0 : Int) (a0_1 : Int) (l0_2 : List (S24)) : Option (Int) := (expr_valid.f k a0_0 a0_1 l0_2).bind fun t381 => (if t381 = true then ((expr_depth.f k a0_0 a0_1 l0_2).bind fun t382 => (some t382)) else (some 0))
theorem expr_Depth.mono : ∀ a0 a1 a2 k, LeO (expr_Depth.f k a0 a1 a2) (expr_Depth.f (k + 1) a0 a1 a2) := by
 intro a0 a1 a2 k
 unfold expr_Depth.f
 repeat' first
   | (with_reducible exact expr_depth.mono _ _ _ _)
   | (with_reducible exact expr_valid.mono _ _ _ _)
   | (with_reducible exact LeO.refl _)
   | (with_reducible exact LeO.none _)
   | (with_reducible refine LeO.ite ?_ ?_)
   | (with_reducible refine LeO.bind ?_ (fun _ => ?_))
   | exact expr_depth.mono _ _ _ _
   | exact expr_valid.mono _ _ _ _
   | exact LeO.none _
   | refine LeO.ite ?_ ?_
   | refine LeO.bind ?_ (fun _ => ?_)
set_option maxHeartbeats 8000000 in
set_option maxRecDepth 100000 in
theorem expr_Depth.calls (k : Nat) (a0_0 : Int) (a0_1 : Int) (A0_2 : Option Addr) (c0_2 : Nat) (l0_2 : List (S24)) (r : Int) (w : World) (hr0_2 : Kd.C k24 w A0_2 l0_2.length l0_2) (hc0_2 : l0_2.length ≤ c0_2) (h : expr_Depth.f k a0_0 a0_1 l0_2 = some r) :
  Calls Try.prog 26 #[.agg #[.int .i64 a0_0, .int .i64 a0_1, .slice A0_2 l0_2.length c0_2]] w fun e w' => e = .returned (.int .i64 r) ∧ Below w.heap.size w w' := by
 have hu24 := Try.underlying24
 have HR0_2 := Aside0.mk hr0_2
 have HC0_2 := Aside0.mk hc0_2
 clear hr0_2 hc0_2
 have HB := Aside0.mk (Below.refl w.heap.size w)
 have H : ((expr_valid.f k a0_0 a0_1 l0_2).bind fun t381 => (if t381 = true then ((expr_depth.f k a0_0 a0_1 l0_2).bind fun t382 => (some t382)) else (some 0))) = some r := h
 clear h
 replace H := Option.bind_eq_some_iff.mp H
 obtain ⟨t381, A20, H⟩ := H
 replace H : (if t381 = true then ((expr_depth.f k a0_0 a0_1 l0_2).bind fun t382 => (some t382)) else (some 0)) = some r := H
 have A2 := Aside0.mk A20
 clear A20
 by_cases c3 : t381 = true
 ·subst c3
  have H1 : ((expr_depth.f k a0_0 a0_1 l0_2).bind fun t382 => (some t382)) = some r := by rw [if_pos rfl] at H; exact H
  clear H
  have H := H1
  clear H1
  replace H := Option.bind_eq_some_iff.mp H
  obtain ⟨t382, A40, H⟩ := H
  replace H : (some t382) = some r := H
  have A4 := Aside0.mk A40
  clear A40
  obtain rfl := Option.some.inj H
  go_enter Try.func26, Try.ntmps26
  go_wp2_with (first | ((with_reducible refine gate_dst (N := 1) rfl ?_); refine box_event ?hg (N := 1) ?hd (cs := #[.int .i64 a0_0, .int .i64 a0_1, .slice A0_2 l0_2.length c0_2]) (t := 24) ?hr ?_; (case hd => rfl); (case hg => rfl); (case hr => first | (go_simp; done) | (go_simp; rfl)); intro gb380 hg w5 hbox hb; have n0_ := Aside0.mk (below_step (bB) hb); have n1_ := Aside0.mk (hbox); have n2_ := Aside0.mk ((by rw [hg]; exact (below_size (bB)) : w.heap.size ≤ gb380)); have n3_ := Aside0.mk ((by rw [hg]; exact (below_size (bB)) : w.heap.size ≤ gb380)); clear HB; have HB := n0_; have BK380 := n1_; have GW380 := n2_; have GE380 := n3_; clear n0_ n1_ n2_ n3_; clear hb hbox hg; have hcz6_0 : w5.cell? ⟨gb380, 0, none⟩ = some (.int .i64 a0_0) := (blk_cell BK380.out 0).trans rfl; have hcz6_1 : w5.cell? ⟨gb380, 1, none⟩ = some (.int .i64 a0_1) := (blk_cell BK380.out 1).trans rfl; have hcz6_2 : w5.cell? ⟨gb380, 2, none⟩ = some (.slice A0_2 l0_2.length c0_2) := (blk_cell BK380.out 2).trans rfl; have hfz6_0 := blk_frozen BK380.out 0; have hfz6_1 := blk_frozen BK380.out 1; have hfz6_2 := blk_frozen BK380.out 2) | ((with_reducible refine gate_callee (f := 46) rfl ?_); refine goesL_ (some 4) rfl rfl Try.func46 (by kernel_rfl) rfl #[.agg #[.int .i64 a0_0, .int .i64 a0_1, .slice A0_2 l0_2.length c0_2]] rfl (by (try simp only [List.map_toArray, List.map_cons, List.map_nil]); first | done | rfl | (simp only [List.length_drop, List.length_take]; rfl) | (simp only [Int.ofNat_lt, Int.ofNat_le]; rfl)) ?_; (with_reducible refine (expr_valid.calls k a0_0 a0_1 _ _ l0_2 true _ ?side1 ?side2 A2.out).mono ?_); (case side1 => repeat (first | exact (Kd.C_below HR0_2.out HB.out) | (with_reducible refine Kd.C_alloc ?_ _) | (with_reducible refine Kd.C_drewN ?_ _) | (with_reducible refine Kd.C_drew ?_))); (case side2 => exact HC0_2.out); rintro e w7 ⟨rfl, hb⟩; refine ⟨_, rfl, ?_⟩; have n0_ := Aside0.mk (blk_below (g := gb380) (o := .cells #[.int .i64 a0_0, .int .i64 a0_1, .slice A0_2 l0_2.length c0_2] 24 (0, 0)) (bK) hb); have n1_ := Aside0.mk (below_step (bB) hb); clear BK380; clear HB; have BK380 := n0_; have HB := n1_; clear n0_ n1_; (try clear hb); (try clear hb2); (try clear hk); (try clear hi); have hcz8_0 : w7.cell? ⟨gb380, 0, none⟩ = some (.int .i64 a0_0) := (blk_cell BK380.out 0).trans rfl; have hcz8_1 : w7.cell? ⟨gb380, 1, none⟩ = some (.int .i64 a0_1) := (blk_cell BK380.out 1).trans rfl; have hcz8_2 : w7.cell? ⟨gb380, 2, none⟩ = some (.slice A0_2 l0_2.length c0_2) := (blk_cell BK380.out 2).trans rfl; have hfz8_0 := blk_frozen BK380.out 0; have hfz8_1 := blk_frozen BK380.out 1; have hfz8_2 := blk_frozen BK380.out 2) | ((with_reducible refine gate_callee (f := 55) rfl ?_); refine goesL_ (some 7) rfl rfl Try.func55 (by kernel_rfl) rfl #[.agg #[.int .i64 a0_0, .int .i64 a0_1, .slice A0_2 l0_2.length c0_2]] rfl (by (try simp only [List.map_toArray, List.map_cons, List.map_nil]); first | done | rfl | (simp only [List.length_drop, List.length_take]; rfl) | (simp only [Int.ofNat_lt, Int.ofNat_le]; rfl)) ?_; (with_reducible refine (expr_depth.calls k a0_0 a0_1 _ _ l0_2 t382 _ ?side1 ?side2 A4.out).mono ?_); (case side1 => repeat (first | exact (Kd.C_below HR0_2.out HB.out) | (with_reducible refine Kd.C_alloc ?_ _) | (with_reducible refine Kd.C_drewN ?_ _) | (with_reducible refine Kd.C_drew ?_))); (case side2 => exact HC0_2.out); rintro e w9 ⟨rfl, hb⟩; refine ⟨_, rfl, ?_⟩; have n0_ := Aside0.mk (blk_below (g := gb380) (o := .cells #[.int .i64 a0_0, .int .i64 a0_1, .slice A0_2 l0_2.length c0_2] 24 (0, 0)) (bK) hb); have n1_ := Aside0.mk (below_step (bB) hb); clear BK380; clear HB; have BK380 := n0_; have HB := n1_; clear n0_ n1_; (try clear hb); (try clear hb2); (try clear hk); (try clear hi)))
  go_ret
  exact ⟨by first | rfl | (simp [errW_none, errW_some] <;> rfl) | (simp [*, errW_none, errW_some] <;> rfl), bB⟩
 ·replace c3 := Bool.eq_false_iff.mpr c3
  subst c3
  have H1 : (some 0) = some r := by rw [if_neg (show ¬ (false = true) by decide)] at H; exact H
  clear H
  have H := H1
  clear H1
  obtain rfl := Option.some.inj H
  go_enter Try.func26, Try.ntmps26
  go_wp2_with (first | ((with_reducible refine gate_dst (N := 1) rfl ?_); refine box_event ?hg (N := 1) ?hd (cs := #[.int .i64 a0_0, .int .i64 a0_1, .slice A0_2 l0_2.length c0_2]) (t := 24) ?hr ?_; (case hd => rfl); (case hg => rfl); (case hr => first | (go_simp; done) | (go_simp; rfl)); intro gb380 hg w10 hbox hb; have n0_ := Aside0.mk (below_step (bB) hb); have n1_ := Aside0.mk (hbox); have n2_ := Aside0.mk ((by rw [hg]; exact (below_size (bB)) : w.heap.size ≤ gb380)); have n3_ := Aside0.mk ((by rw [hg]; exact (below_size (bB)) : w.heap.size ≤ gb380)); clear HB; have HB := n0_; have BK380 := n1_; have GW380 := n2_; have GE380 := n3_; clear n0_ n1_ n2_ n3_; clear hb hbox hg; have hcz11_0 : w10.cell? ⟨gb380, 0, none⟩ = some (.int .i64 a0_0) := (blk_cell BK380.out 0).trans rfl; have hcz11_1 : w10.cell? ⟨gb380, 1, none⟩ = some (.int .i64 a0_1) := (blk_cell BK380.out 1).trans rfl; have hcz11_2 : w10.cell? ⟨gb380, 2, none⟩ = some (.slice A0_2 l0_2.length c0_2) := (blk_cell BK380.out 2).trans rfl; have hfz11_0 := blk_frozen BK380.out 0; have hfz11_1 := blk_frozen BK380.out 1; have hfz11_2 := blk_frozen BK380.out 2) | ((with_reducible refine gate_callee (f := 46) rfl ?_); refine goesL_ (some 4) rfl rfl Try.func46 (by kernel_rfl) rfl #[.agg #[.int .i64 a0_0, .int .i64 a0_1, .slice A0_2 l0_2.length c0_2]] rfl (by (try simp only [List.map_toArray, List.map_cons, List.map_nil]); first | done | rfl | (simp only [List.length_drop, List.length_take]; rfl) | (simp only [Int.ofNat_lt, Int.ofNat_le]; rfl)) ?_; (with_reducible refine (expr_valid.calls k a0_0 a0_1 _ _ l0_2 false _ ?side1 ?side2 A2.out).mono ?_); (case side1 => repeat (first | exact (Kd.C_below HR0_2.out HB.out) | (with_reducible refine Kd.C_alloc ?_ _) | (with_reducible refine Kd.C_drewN ?_ _) | (with_reducible refine Kd.C_drew ?_))); (case side2 => exact HC0_2.out); rintro e w12 ⟨rfl, hb⟩; refine ⟨_, rfl, ?_⟩; have n0_ := Aside0.mk (blk_below (g := gb380) (o := .cells #[.int .i64 a0_0, .int .i64 a0_1, .slice A0_2 l0_2.length c0_2] 24 (0, 0)) (bK) hb); have n1_ := Aside0.mk (below_step (bB) hb); clear BK380; clear HB; have BK380 := n0_; have HB := n1_; clear n0_ n1_; (try clear hb); (try clear hb2); (try clear hk); (try clear hi)))
  go_ret
  exact ⟨by first | rfl | (simp [errW_none, errW_some] <;> rfl) | (simp [*, errW_none, errW_some] <;> rfl), bB⟩
end Go.Proofs.Ytjofkebiacaciaa.PAll
end
section
namespace Go.Proofs.Ytjofkebiacaciaa.PAll
open Go.RowKit Go.Proofs.YtjofkebiacaciaaW.PrintWords Go.Proofs.YtjofkebiacaciaaW.PrintLast Go.Proofs.YtjofkebiacaciaaW.PrintMore
attribute [local go_sem] max2_int min2_int max_two min_two max_three min_three max_four min_four
set_option linter.unusedVariables false
set_option linter.unusedSimpArgs false
mutual
def expr_height.l0 : Nat → Int → List (S24) → Int → Int → Int → Int → List (S24) → Option (Int)
 | 0, _, _, _, _, _, _, _ => none
 | k + 1, x3, x7, x8, x9, x384000, x384001, x384002 => if x9 < x8 then (if 0 ≤ x9 then (if x9 < (x7.length : Int) then ((expr_height.f k ((rd_T24 x7 x9).f0) ((rd_T24 x7 x9).f1) ((rd_T24 x7 x9).f2)).bind fun t386 => (expr_height.l0 k (mx x3 t386) x7 x8 (wrap64 (x9 + 1)) x384000 x384001 x384002)) else (none)) else (none)) else (if x384000 = 7 then (some (wrap64 (x3 + 1))) else (some x3))
def expr_height.f : Nat → Int → Int → List (S24) → Option (Int)
 | 0, _, _, _ => none
 | k + 1, a0_0, a0_1, l0_2 => expr_height.l0 k 0 l0_2 (l0_2.length : Int) 0 a0_0 a0_1 l0_2
end
theorem expr_height.mono_l : ∀ k, (∀ y0 y1 y2, LeO (expr_height.f k y0 y1 y2) (expr_height.f (k + 1) y0 y1 y2)) ∧ (∀ y0 y1 y2 y3 y4 y5 y6, LeO (expr_height.l0 k y0 y1 y2 y3 y4 y5 y6) (expr_height.l0 (k + 1) y0 y1 y2 y3 y4 y5 y6))
 | 0 => ⟨fun _ _ _ r h => by simp [expr_height.f] at h, fun _ _ _ _ _ _ _ r h => by simp [expr_height.l0] at h⟩
 | k + 1 => by
  obtain ⟨ih0, ih1⟩ := expr_height.mono_l k
  refine ⟨?_, ?_⟩
  ·intro y0 y1 y2
   unfold expr_height.f
   repeat' first
   | (with_reducible exact ih0 _ _ _)
   | (with_reducible exact ih1 _ _ _ _ _ _ _)
   | (with_reducible exact LeO.refl _)
   | (with_reducible exact LeO.none _)
   | (with_reducible refine LeO.ite ?_ ?_)
   | (with_reducible refine LeO.bind ?_ (fun _ => ?_))
   | exact ih0 _ _ _
   | exact ih1 _ _ _ _ _ _ _
   | exact LeO.none _
   | refine LeO.ite ?_ ?_
   | refine LeO.bind ?_ (fun _ => ?_)
  ·intro y0 y1 y2 y3 y4 y5 y6
   unfold expr_height.l0
   repeat' first
   | (with_reducible exact ih0 _ _ _)
   | (with_reducible exact ih1 _ _ _ _ _ _ _)
   | (with_reducible exact LeO.refl _)
   | (with_reducible exact LeO.none _)
   | (with_reducible refine LeO.ite ?_ ?_)
   | (with_reducible refine LeO.bind ?_ (fun _ => ?_))
   | exact ih0 _ _ _
   | exact ih1 _ _ _ _ _ _ _
   | exact LeO.none _
   | refine LeO.ite ?_ ?_
   | refine LeO.bind ?_ (fun _ => ?_)
theorem expr_height.mono : ∀ a0 a1 a2 k, LeO (expr_height.f k a0 a1 a2) (expr_height.f (k + 1) a0 a1 a2) := by
 intro a0 a1 a2 k
 obtain ⟨ih0, ih1⟩ := expr_height.mono_l k
 exact ih0 a0 a1 a2
set_option maxHeartbeats 8000000 in
set_option maxRecDepth 100000 in
theorem expr_height.calls (k : Nat) : ∀ (a0_0 : Int) (a0_1 : Int) (A0_2 : Option Addr) (c0_2 : Nat) (l0_2 : List (S24)) (r : Int) (w : World) (hr0_2 : Kd.C k24 w A0_2 l0_2.length l0_2) (hc0_2 : l0_2.length ≤ c0_2) (h : expr_height.f k a0_0 a0_1 l0_2 = some r),
  Calls Try.prog 56 #[.agg #[.int .i64 a0_0, .int .i64 a0_1, .slice A0_2 l0_2.length c0_2]] w fun e w' => e = .returned (.int .i64 r) ∧ Below w.heap.size w w' := by
 induction k using Nat.strongRecOn with
 | _ k ih =>
 intro a0_0 a0_1 A0_2 c0_2 l0_2 r w hr0_2 hc0_2 h
 cases k with
 | zero => exact absurd h (by simp [expr_height.f])
 | succ k =>
 simp only [expr_height.f] at h
 have hu24 := Try.underlying24
 have HR0_2 := Aside0.mk hr0_2
 have HC0_2 := Aside0.mk hc0_2
 clear hr0_2 hc0_2
 have HB := Aside0.mk (Below.refl w.heap.size w)
 have H : (expr_height.l0 k 0 l0_2 (l0_2.length : Int) 0 a0_0 a0_1 l0_2) = some r := h
 clear h
 have H' := Aside0.mk H
 clear H
 go_enter Try.func56, Try.ntmps56
 go_wp2_with (first | ((with_reducible refine gate_dst (N := 1) rfl ?_); refine box_event ?hg (N := 1) ?hd (cs := #[.int .i64 a0_0, .int .i64 a0_1, .slice A0_2 l0_2.length c0_2]) (t := 24) ?hr ?_; (case hd => rfl); (case hg => rfl); (case hr => first | (go_simp; done) | (go_simp; rfl)); intro gb383 hg w2 hbox hb; have n0_ := Aside0.mk (below_step (bB) hb); have n1_ := Aside0.mk (hbox); have n2_ := Aside0.mk ((by rw [hg]; exact (below_size (bB)) : w.heap.size ≤ gb383)); have n3_ := Aside0.mk ((by rw [hg]; exact (below_size (bB)) : w.heap.size ≤ gb383)); clear HB; have HB := n0_; have BK383 := n1_; have GW383 := n2_; have GE383 := n3_; clear n0_ n1_ n2_ n3_; clear hb hbox hg; have hcz3_0 : w2.cell? ⟨gb383, 0, none⟩ = some (.int .i64 a0_0) := (blk_cell BK383.out 0).trans rfl; have hcz3_1 : w2.cell? ⟨gb383, 1, none⟩ = some (.int .i64 a0_1) := (blk_cell BK383.out 1).trans rfl; have hcz3_2 : w2.cell? ⟨gb383, 2, none⟩ = some (.slice A0_2 l0_2.length c0_2) := (blk_cell BK383.out 2).trans rfl; have hfz3_0 := blk_frozen BK383.out 0; have hfz3_1 := blk_frozen BK383.out 1; have hfz3_2 := blk_frozen BK383.out 2))
 go_loopg [3, 9] k (fun kq v3 v9 w' => ∃ (x3_1 : Int) (x9_1 : Int), v3 = .int .i64 x3_1 ∧ v9 = .int .i64 x9_1 ∧ Aside0 (expr_height.l0 kq x3_1 l0_2 (l0_2.length : Int) x9_1 a0_0 a0_1 l0_2 = some r) ∧ Aside0 (kq ≤ k) ∧ Aside0 (w'.heap[gb383]? = some (.cells #[.int .i64 a0_0, .int .i64 a0_1, (.slice A0_2 l0_2.length c0_2)] 24 (0, 0))) ∧ Aside0 (Below w.heap.size w w'))
 case atStart => exact ⟨(0), (0), (by first | rfl | (simp; done) | (simp [*]; done)), (by first | rfl | (simp; done) | (simp [*]; done)), H', ⟨Nat.le_refl _⟩, ⟨bK⟩, ⟨bB⟩⟩
 case round =>
  clear H'
  try clear p2
  try clear hcz3_0
  try clear hcz3_1
  try clear hcz3_2
  try clear hfz3_0
  try clear hfz3_1
  try clear hfz3_2
  obtain ⟨x3_1, x9_1, rfl, rfl, HA, HK1, BK383, HB⟩ := hrel
  cases gk with
  | zero => exact absurd HA.out (by simp [expr_height.l0])
  | succ k1 =>
   have H := HA.out
   clear HA
   simp only [expr_height.l0] at H
   by_cases c4 : x9_1 < (l0_2.length : Int)
   ·rw [if_pos c4] at H
    have c4b0 : decide (x9_1 < (l0_2.length : Int)) = true := decide_eq_true c4
    clear c4
    by_cases c5 : 0 ≤ x9_1
    ·rw [if_pos c5] at H
     have c5b0 : decide (0 ≤ x9_1) = true := decide_eq_true c5
     clear c5
     by_cases c6 : x9_1 < (l0_2.length : Int)
     ·rw [if_pos c6] at H
      have c6b0 : decide (x9_1 < (l0_2.length : Int)) = true := decide_eq_true c6
      clear c6
      replace H := Option.bind_eq_some_iff.mp H
      obtain ⟨t386, A70, H⟩ := H
      replace H : (expr_height.l0 k1 (mx x3_1 t386) l0_2 (l0_2.length : Int) (wrap64 (x9_1 + 1)) a0_0 a0_1 l0_2) = some r := H
      have A7 := Aside0.mk A70
      clear A70
      obtain ⟨ji8, hji8⟩ : ∃ j_ : Int, (mx x3_1 t386) = j_ := ⟨_, rfl⟩
      replace H : (expr_height.l0 k1 ji8 l0_2 (l0_2.length : Int) (wrap64 (x9_1 + 1)) a0_0 a0_1 l0_2) = some r := by first | (rw [hji8] at H; exact H) | (simp only [hji8] at H ⊢; exact H)
      (try rw [hji8] at A7)
      have hji8_ : (if x3_1 < t386 then t386 else x3_1) = ji8 := hji8
      have H' := Aside0.mk H
      clear H
      have p384 : 0 ≤ (x9_1 : Int) := of_decide_eq_true (by first | (with_reducible assumption) | assumption)
      have q384 : x9_1 < (l0_2.length : Int) := of_decide_eq_true (by first | (with_reducible assumption) | assumption)
      obtain ⟨ad384, A384_2, c384_2, e384, hx384_0, hx384_1, hx384_2, hl384_2, hi384_2⟩ := at_T24 HR0_2.out x9_1 p384 q384
      cases e384
      replace hx384_0 := (HB.out.cell (World.block_lt_of_cell? w _ hx384_0)).trans hx384_0
      replace hx384_1 := (HB.out.cell (World.block_lt_of_cell? w _ hx384_1)).trans hx384_1
      replace hx384_2 := (HB.out.cell (World.block_lt_of_cell? w _ hx384_2)).trans hx384_2
      have HR384_2 := Aside0.mk hi384_2
      have HC384_2 := Aside0.mk hl384_2
      clear hi384_2 hl384_2
      replace p384 := eq_true p384
      replace q384 := eq_true q384
      go_wp2_with (first | ((with_reducible refine gate_dst (N := 5) rfl ?_); refine box_event ?hg (N := 5) ?hd (cs := #[.int .i64 0, .int .i64 0, .slice none 0 0]) (t := 24) ?hr ?_; (case hd => rfl); (case hg => rfl); (case hr => first | (go_simp; done) | (go_simp; rfl)); intro gb385 hg w9 hbox hb; have n0_ := Aside0.mk (blk_below (g := gb383) (o := .cells #[.int .i64 a0_0, .int .i64 a0_1, .slice (some ad384) l0_2.length c0_2] 24 (0, 0)) (bK) hb); have n1_ := Aside0.mk (below_step (bB) hb); have n2_ := Aside0.mk (hbox); have n3_ := Aside0.mk ((by rw [hg]; exact (below_size (bB)) : w.heap.size ≤ gb385)); have n4_ := Aside0.mk ((by rw [hg]; exact (below_size (bB)) : w.heap.size ≤ gb385)); have n5_ := Aside0.mk ((by rw [hg]; exact Nat.ne_of_lt (blk_lt (g := gb383) (o := .cells #[.int .i64 a0_0, .int .i64 a0_1, .slice (some ad384) l0_2.length c0_2] 24 (0, 0)) (bK)) : gb383 ≠ gb385)); have n6_ := Aside0.mk ((by rw [hg]; exact Nat.ne_of_gt (blk_lt (g := gb383) (o := .cells #[.int .i64 a0_0, .int .i64 a0_1, .slice (some ad384) l0_2.length c0_2] 24 (0, 0)) (bK)) : gb385 ≠ gb383)); clear BK383; clear HB; have BK383 := n0_; have HB := n1_; have BK385 := n2_; have GW385 := n3_; have GE385 := n4_; have NB383_385 := n5_; have NB385_383 := n6_; clear n0_ n1_ n2_ n3_ n4_ n5_ n6_; clear hb hbox hg; have hnb10 := NB385_383.out; have hnc10 := NB383_385.out; have hcz11_0 : w9.cell? ⟨gb385, 0, none⟩ = some (.int .i64 0) := (blk_cell BK385.out 0).trans rfl; have hcz11_1 : w9.cell? ⟨gb385, 1, none⟩ = some (.int .i64 0) := (blk_cell BK385.out 1).trans rfl; have hcz11_2 : w9.cell? ⟨gb385, 2, none⟩ = some (.slice none 0 0) := (blk_cell BK385.out 2).trans rfl; have hfz11_0 := blk_frozen BK385.out 0; have hfz11_1 := blk_frozen BK385.out 1; have hfz11_2 := blk_frozen BK385.out 2) | ((with_reducible refine gate_callee (f := 56) rfl ?_); refine goesL_ (some 15) rfl rfl Try.func56 (by kernel_rfl) rfl #[.agg #[.int .i64 ((rd_T24 l0_2 x9_1).f0), .int .i64 ((rd_T24 l0_2 x9_1).f1), .slice A384_2 ((rd_T24 l0_2 x9_1).f2).length c384_2]] rfl (by (try simp only [List.map_toArray, List.map_cons, List.map_nil]); first | done | rfl | (simp only [List.length_drop, List.length_take]; rfl) | (simp only [Int.ofNat_lt, Int.ofNat_le]; rfl)) ?_; (with_reducible refine (ih k1 (by have := HK1.out; omega) ((rd_T24 l0_2 x9_1).f0) ((rd_T24 l0_2 x9_1).f1) _ _ ((rd_T24 l0_2 x9_1).f2) t386 _ ?side1 ?side2 A7.out).mono ?_); (case side1 => exact Kd.C_below HR384_2.out (bB)); (case side2 => exact HC384_2.out); rintro e w12 ⟨rfl, hb⟩; refine ⟨_, rfl, ?_⟩; have n0_ := Aside0.mk (blk_below (g := gb383) (o := .cells #[.int .i64 a0_0, .int .i64 a0_1, .slice (some ad384) l0_2.length c0_2] 24 (0, 0)) (by (with_reducible repeat (first | refine blk_drewN ?_ _ | refine blk_drew ?_ | refine blk_alloc ?_ _)); refine blk_far ?_ NB383_385.out _; (with_reducible repeat (first | refine blk_drewN ?_ _ | refine blk_drew ?_ | refine blk_alloc ?_ _)); refine blk_far ?_ NB383_385.out _; (with_reducible repeat (first | refine blk_drewN ?_ _ | refine blk_drew ?_ | refine blk_alloc ?_ _)); refine blk_far ?_ NB383_385.out _; (with_reducible repeat (first | refine blk_drewN ?_ _ | refine blk_drew ?_ | refine blk_alloc ?_ _)); exact BK383.out) hb); have n1_ := Aside0.mk (blk_below (g := gb385) (o := .cells #[.int .i64 ((rd_T24 l0_2 x9_1).f0), .int .i64 ((rd_T24 l0_2 x9_1).f1), .slice A384_2 ((rd_T24 l0_2 x9_1).f2).length c384_2] 24 (0, 0)) (by (with_reducible repeat (first | refine blk_drewN ?_ _ | refine blk_drew ?_ | refine blk_alloc ?_ _)); refine blk_put (cs := #[.int .i64 ((rd_T24 l0_2 x9_1).f0), .int .i64 ((rd_T24 l0_2 x9_1).f1), .slice none 0 0]) ?_ 2 _ rfl; (with_reducible repeat (first | refine blk_drewN ?_ _ | refine blk_drew ?_ | refine blk_alloc ?_ _)); refine blk_put (cs := #[.int .i64 ((rd_T24 l0_2 x9_1).f0), .int .i64 0, .slice none 0 0]) ?_ 1 _ rfl; (with_reducible repeat (first | refine blk_drewN ?_ _ | refine blk_drew ?_ | refine blk_alloc ?_ _)); refine blk_put (cs := #[.int .i64 0, .int .i64 0, .slice none 0 0]) ?_ 0 _ rfl; (with_reducible repeat (first | refine blk_drewN ?_ _ | refine blk_drew ?_ | refine blk_alloc ?_ _)); exact BK385.out) hb); have n2_ := Aside0.mk (below_step (bB) hb); clear BK383; clear BK385; clear HB; have BK383 := n0_; have BK385 := n1_; have HB := n2_; clear n0_ n1_ n2_; (try clear hb); (try clear hb2); (try clear hk); (try clear hi)))
      (first | go_roundg k1 | ((simp only [add_plain] at *); go_roundg k1))
      case measure => have := HK1.out; omega
      case rel => exact ⟨(ji8), (wrap64 (x9_1 + 1)), (by first | rfl | (simp; done) | (simp only [← hji8] <;> (first | rfl | simp)) | (simp [*]; done)), (by first | rfl | (simp; done) | (simp [*]; done)), H', ⟨by have := HK1.out; omega⟩, ⟨bK⟩, ⟨bB⟩⟩
     ·rw [if_neg c6] at H
      exact absurd H (by simp)
    ·rw [if_neg c5] at H
     exact absurd H (by simp)
   ·rw [if_neg c4] at H
    have c4b0 : decide (x9_1 < (l0_2.length : Int)) = false := decide_eq_false c4
    clear c4
    by_cases c13 : a0_0 = 7
    ·rw [if_pos c13] at H
     have c13b0 : (a0_0 == 7) = true := beq_iff_eq.mpr c13
     have c13b1 : (a0_0 != 7) = false := bne_eq_false_iff_eq.mpr c13
     clear c13
     obtain rfl := Option.some.inj H
     have hcz14_0 : wr.cell? ⟨gb383, 0, none⟩ = some (.int .i64 a0_0) := (blk_cell BK383.out 0).trans rfl
     have hcz14_1 : wr.cell? ⟨gb383, 1, none⟩ = some (.int .i64 a0_1) := (blk_cell BK383.out 1).trans rfl
     have hcz14_2 : wr.cell? ⟨gb383, 2, none⟩ = some (.slice A0_2 l0_2.length c0_2) := (blk_cell BK383.out 2).trans rfl
     have hfz14_0 := blk_frozen BK383.out 0
     have hfz14_1 := blk_frozen BK383.out 1
     have hfz14_2 := blk_frozen BK383.out 2
     go_wp2
     go_ret
     exact ⟨by first | rfl | (simp [errW_none, errW_some] <;> rfl) | (simp [*, errW_none, errW_some] <;> rfl), bB⟩
    ·rw [if_neg c13] at H
     have c13b0 : (a0_0 == 7) = false := beq_eq_false_iff_ne.mpr c13
     have c13b1 : (a0_0 != 7) = true := bne_iff_ne.mpr c13
     obtain rfl := Option.some.inj H
     have hcz15_0 : wr.cell? ⟨gb383, 0, none⟩ = some (.int .i64 a0_0) := (blk_cell BK383.out 0).trans rfl
     have hcz15_1 : wr.cell? ⟨gb383, 1, none⟩ = some (.int .i64 a0_1) := (blk_cell BK383.out 1).trans rfl
     have hcz15_2 : wr.cell? ⟨gb383, 2, none⟩ = some (.slice A0_2 l0_2.length c0_2) := (blk_cell BK383.out 2).trans rfl
     have hfz15_0 := blk_frozen BK383.out 0
     have hfz15_1 := blk_frozen BK383.out 1
     have hfz15_2 := blk_frozen BK383.out 2
     go_wp2
     go_ret
     exact ⟨by first | rfl | (simp [errW_none, errW_some] <;> rfl) | (simp [*, errW_none, errW_some] <;> rfl), bB⟩
end Go.Proofs.Ytjofkebiacaciaa.PAll
end
section
namespace Go.Proofs.Ytjofkebiacaciaa.PAll
open Go.RowKit Go.Proofs.YtjofkebiacaciaaW.PrintWords Go.Proofs.YtjofkebiacaciaaW.PrintLast Go.Proofs.YtjofkebiacaciaaW.PrintMore
attribute [local go_sem] max2_int min2_int max_two min_two max_three min_three max_four min_four
set_option linter.unusedVariables false
set_option linter.unusedSimpArgs false
def expr_StarHeight.f (k : Nat) (a0_0 : Int) (a0_1 : Int) (l0_2 : List (S24)) : Option (Int) := (expr_valid.f k a0_0 a0_1 l0_2).bind fun t388 => (if t388 = true then ((expr_height.f k a0_0 a0_1 l0_2).bind fun t389 => (some t389)) else (some 0))
theorem expr_StarHeight.mono : ∀ a0 a1 a2 k, LeO (expr_StarHeight.f k a0 a1 a2) (expr_StarHeight.f (k + 1) a0 a1 a2) := by
 intro a0 a1 a2 k
 unfold expr_StarHeight.f
 repeat' first
   | (with_reducible exact expr_height.mono _ _ _ _)
   | (with_reducible exact expr_valid.mono _ _ _ _)
   | (with_reducible exact LeO.refl _)
   | (with_reducible exact LeO.none _)
   | (with_reducible refine LeO.ite ?_ ?_)
   | (with_reducible refine LeO.bind ?_ (fun _ => ?_))
   | exact expr_height.mono _ _ _ _
   | exact expr_valid.mono _ _ _ _
   | exact LeO.none _
   | refine LeO.ite ?_ ?_
   | refine LeO.bind ?_ (fun _ => ?_)
set_option maxHeartbeats 8000000 in
set_option maxRecDepth 100000 in
theorem expr_StarHeight.calls (k : Nat) (a0_0 : Int) (a0_1 : Int) (A0_2 : Option Addr) (c0_2 : Nat) (l0_2 : List (S24)) (r : Int) (w : World) (hr0_2 : Kd.C k24 w A0_2 l0_2.length l0_2) (hc0_2 : l0_2.length ≤ c0_2) (h : expr_StarHeight.f k a0_0 a0_1 l0_2 = some r) :
  Calls Try.prog 27 #[.agg #[.int .i64 a0_0, .int .i64 a0_1, .slice A0_2 l0_2.length c0_2]] w fun e w' => e = .returned (.int .i64 r) ∧ Below w.heap.size w w' := by
 have hu24 := Try.underlying24
 have HR0_2 := Aside0.mk hr0_2
 have HC0_2 := Aside0.mk hc0_2
 clear hr0_2 hc0_2
 have HB := Aside0.mk (Below.refl w.heap.size w)
 have H : ((expr_valid.f k a0_0 a0_1 l0_2).bind fun t388 => (if t388 = true then ((expr_height.f k a0_0 a0_1 l0_2).bind fun t389 => (some t389)) else (some 0))) = some r := h
 clear h
 replace H := Option.bind_eq_some_iff.mp H
 obtain ⟨t388, A20, H⟩ := H
 replace H : (if t388 = true then ((expr_height.f k a0_0 a0_1 l0_2).bind fun t389 => (some t389)) else (some 0)) = some r := H
 have A2 := Aside0.mk A20
 clear A20
 by_cases c3 : t388 = true
 ·subst c3
  have H1 : ((expr_height.f k a0_0 a0_1 l0_2).bind fun t389 => (some t389)) = some r := by rw [if_pos rfl] at H; exact H
  clear H
  have H := H1
  clear H1
  replace H := Option.bind_eq_some_iff.mp H
  obtain ⟨t389, A40, H⟩ := H
  replace H : (some t389) = some r := H
  have A4 := Aside0.mk A40
  clear A40
  obtain rfl := Option.some.inj H
  go_enter Try.func27, Try.ntmps27
  go_wp2_with (first | ((with_reducible refine gate_dst (N := 1) rfl ?_); refine box_event ?hg (N := 1) ?hd (cs := #[.int .i64 a0_0, .int .i64 a0_1, .slice A0_2 l0_2.length c0_2]) (t := 24) ?hr ?_; (case hd => rfl); (case hg => rfl); (case hr => first | (go_simp; done) | (go_simp; rfl)); intro gb387 hg w5 hbox hb; have n0_ := Aside0.mk (below_step (bB) hb); have n1_ := Aside0.mk (hbox); have n2_ := Aside0.mk ((by rw [hg]; exact (below_size (bB)) : w.heap.size ≤ gb387)); have n3_ := Aside0.mk ((by rw [hg]; exact (below_size (bB)) : w.heap.size ≤ gb387)); clear HB; have HB := n0_; have BK387 := n1_; have GW387 := n2_; have GE387 := n3_; clear n0_ n1_ n2_ n3_; clear hb hbox hg; have hcz6_0 : w5.cell? ⟨gb387, 0, none⟩ = some (.int .i64 a0_0) := (blk_cell BK387.out 0).trans rfl; have hcz6_1 : w5.cell? ⟨gb387, 1, none⟩ = some (.int .i64 a0_1) := (blk_cell BK387.out 1).trans rfl; have hcz6_2 : w5.cell? ⟨gb387, 2, none⟩ = some (.slice A0_2 l0_2.length c0_2) := (blk_cell BK387.out 2).trans rfl; have hfz6_0 := blk_frozen BK387.out 0; have hfz6_1 := blk_frozen BK387.out 1; have hfz6_2 := blk_frozen BK387.out 2) | ((with_reducible refine gate_callee (f := 46) rfl ?_); refine goesL_ (some 4) rfl rfl Try.func46 (by kernel_rfl) rfl #[.agg #[.int .i64 a0_0, .int .i64 a0_1, .slice A0_2 l0_2.length c0_2]] rfl (by (try simp only [List.map_toArray, List.map_cons, List.map_nil]); first | done | rfl | (simp only [List.length_drop, List.length_take]; rfl) | (simp only [Int.ofNat_lt, Int.ofNat_le]; rfl)) ?_; (with_reducible refine (expr_valid.calls k a0_0 a0_1 _ _ l0_2 true _ ?side1 ?side2 A2.out).mono ?_); (case side1 => repeat (first | exact (Kd.C_below HR0_2.out HB.out) | (with_reducible refine Kd.C_alloc ?_ _) | (with_reducible refine Kd.C_drewN ?_ _) | (with_reducible refine Kd.C_drew ?_))); (case side2 => exact HC0_2.out); rintro e w7 ⟨rfl, hb⟩; refine ⟨_, rfl, ?_⟩; have n0_ := Aside0.mk (blk_below (g := gb387) (o := .cells #[.int .i64 a0_0, .int .i64 a0_1, .slice A0_2 l0_2.length c0_2] 24 (0, 0)) (bK) hb); have n1_ := Aside0.mk (below_step (bB) hb); clear BK387; clear HB; have BK387 := n0_; have HB := n1_; clear n0_ n1_; (try clear hb); (try clear hb2); (try clear hk); (try clear hi); have hcz8_0 : w7.cell? ⟨gb387, 0, none⟩ = some (.int .i64 a0_0) := (blk_cell BK387.out 0).trans rfl; have hcz8_1 : w7.cell? ⟨gb387, 1, none⟩ = some (.int .i64 a0_1) := (blk_cell BK387.out 1).trans rfl; have hcz8_2 : w7.cell? ⟨gb387, 2, none⟩ = some (.slice A0_2 l0_2.length c0_2) := (blk_cell BK387.out 2).trans rfl; have hfz8_0 := blk_frozen BK387.out 0; have hfz8_1 := blk_frozen BK387.out 1; have hfz8_2 := blk_frozen BK387.out 2) | ((with_reducible refine gate_callee (f := 56) rfl ?_); refine goesL_ (some 7) rfl rfl Try.func56 (by kernel_rfl) rfl #[.agg #[.int .i64 a0_0, .int .i64 a0_1, .slice A0_2 l0_2.length c0_2]] rfl (by (try simp only [List.map_toArray, List.map_cons, List.map_nil]); first | done | rfl | (simp only [List.length_drop, List.length_take]; rfl) | (simp only [Int.ofNat_lt, Int.ofNat_le]; rfl)) ?_; (with_reducible refine (expr_height.calls k a0_0 a0_1 _ _ l0_2 t389 _ ?side1 ?side2 A4.out).mono ?_); (case side1 => repeat (first | exact (Kd.C_below HR0_2.out HB.out) | (with_reducible refine Kd.C_alloc ?_ _) | (with_reducible refine Kd.C_drewN ?_ _) | (with_reducible refine Kd.C_drew ?_))); (case side2 => exact HC0_2.out); rintro e w9 ⟨rfl, hb⟩; refine ⟨_, rfl, ?_⟩; have n0_ := Aside0.mk (blk_below (g := gb387) (o := .cells #[.int .i64 a0_0, .int .i64 a0_1, .slice A0_2 l0_2.length c0_2] 24 (0, 0)) (bK) hb); have n1_ := Aside0.mk (below_step (bB) hb); clear BK387; clear HB; have BK387 := n0_; have HB := n1_; clear n0_ n1_; (try clear hb); (try clear hb2); (try clear hk); (try clear hi)))
  go_ret
  exact ⟨by first | rfl | (simp [errW_none, errW_some] <;> rfl) | (simp [*, errW_none, errW_some] <;> rfl), bB⟩
 ·replace c3 := Bool.eq_false_iff.mpr c3
  subst c3
  have H1 : (some 0) = some r := by rw [if_neg (show ¬ (false = true) by decide)] at H; exact H
  clear H
  have H := H1
  clear H1
  obtain rfl := Option.some.inj H
  go_enter Try.func27, Try.ntmps27
  go_wp2_with (first | ((with_reducible refine gate_dst (N := 1) rfl ?_); refine box_event ?hg (N := 1) ?hd (cs := #[.int .i64 a0_0, .int .i64 a0_1, .slice A0_2 l0_2.length c0_2]) (t := 24) ?hr ?_; (case hd => rfl); (case hg => rfl); (case hr => first | (go_simp; done) | (go_simp; rfl)); intro gb387 hg w10 hbox hb; have n0_ := Aside0.mk (below_step (bB) hb); have n1_ := Aside0.mk (hbox); have n2_ := Aside0.mk ((by rw [hg]; exact (below_size (bB)) : w.heap.size ≤ gb387)); have n3_ := Aside0.mk ((by rw [hg]; exact (below_size (bB)) : w.heap.size ≤ gb387)); clear HB; have HB := n0_; have BK387 := n1_; have GW387 := n2_; have GE387 := n3_; clear n0_ n1_ n2_ n3_; clear hb hbox hg; have hcz11_0 : w10.cell? ⟨gb387, 0, none⟩ = some (.int .i64 a0_0) := (blk_cell BK387.out 0).trans rfl; have hcz11_1 : w10.cell? ⟨gb387, 1, none⟩ = some (.int .i64 a0_1) := (blk_cell BK387.out 1).trans rfl; have hcz11_2 : w10.cell? ⟨gb387, 2, none⟩ = some (.slice A0_2 l0_2.length c0_2) := (blk_cell BK387.out 2).trans rfl; have hfz11_0 := blk_frozen BK387.out 0; have hfz11_1 := blk_frozen BK387.out 1; have hfz11_2 := blk_frozen BK387.out 2) | ((with_reducible refine gate_callee (f := 46) rfl ?_); refine goesL_ (some 4) rfl rfl Try.func46 (by kernel_rfl) rfl #[.agg #[.int .i64 a0_0, .int .i64 a0_1, .slice A0_2 l0_2.length c0_2]] rfl (by (try simp only [List.map_toArray, List.map_cons, List.map_nil]); first | done | rfl | (simp only [List.length_drop, List.length_take]; rfl) | (simp only [Int.ofNat_lt, Int.ofNat_le]; rfl)) ?_; (with_reducible refine (expr_valid.calls k a0_0 a0_1 _ _ l0_2 false _ ?side1 ?side2 A2.out).mono ?_); (case side1 => repeat (first | exact (Kd.C_below HR0_2.out HB.out) | (with_reducible refine Kd.C_alloc ?_ _) | (with_reducible refine Kd.C_drewN ?_ _) | (with_reducible refine Kd.C_drew ?_))); (case side2 => exact HC0_2.out); rintro e w12 ⟨rfl, hb⟩; refine ⟨_, rfl, ?_⟩; have n0_ := Aside0.mk (blk_below (g := gb387) (o := .cells #[.int .i64 a0_0, .int .i64 a0_1, .slice A0_2 l0_2.length c0_2] 24 (0, 0)) (bK) hb); have n1_ := Aside0.mk (below_step (bB) hb); clear BK387; clear HB; have BK387 := n0_; have HB := n1_; clear n0_ n1_; (try clear hb); (try clear hb2); (try clear hk); (try clear hi)))
  go_ret
  exact ⟨by first | rfl | (simp [errW_none, errW_some] <;> rfl) | (simp [*, errW_none, errW_some] <;> rfl), bB⟩
end Go.Proofs.Ytjofkebiacaciaa.PAll
end
section
namespace Go.Proofs.Ytjofkebiacaciaa.PAll
open Go.RowKit Go.Proofs.YtjofkebiacaciaaW.PrintWords Go.Proofs.YtjofkebiacaciaaW.PrintLast Go.Proofs.YtjofkebiacaciaaW.PrintMore
attribute [local go_sem] max2_int min2_int max_two min_two max_three min_three max_four min_four
set_option linter.unusedVariables false
set_option linter.unusedSimpArgs false
def expr_StarFree.f (k : Nat) (a0_0 : Int) (a0_1 : Int) (l0_2 : List (S24)) : Option (Bool) := (expr_valid.f k a0_0 a0_1 l0_2).bind fun t391 => (if t391 = true then ((expr_height.f k a0_0 a0_1 l0_2).bind fun t392 => (some (t392 == 0))) else (some false))
theorem expr_StarFree.mono : ∀ a0 a1 a2 k, LeO (expr_StarFree.f k a0 a1 a2) (expr_StarFree.f (k + 1) a0 a1 a2) := by
 intro a0 a1 a2 k
 unfold expr_StarFree.f
 repeat' first
   | (with_reducible exact expr_height.mono _ _ _ _)
   | (with_reducible exact expr_valid.mono _ _ _ _)
   | (with_reducible exact LeO.refl _)
   | (with_reducible exact LeO.none _)
   | (with_reducible refine LeO.ite ?_ ?_)
   | (with_reducible refine LeO.bind ?_ (fun _ => ?_))
   | exact expr_height.mono _ _ _ _
   | exact expr_valid.mono _ _ _ _
   | exact LeO.none _
   | refine LeO.ite ?_ ?_
   | refine LeO.bind ?_ (fun _ => ?_)
set_option maxHeartbeats 8000000 in
set_option maxRecDepth 100000 in
theorem expr_StarFree.calls (k : Nat) (a0_0 : Int) (a0_1 : Int) (A0_2 : Option Addr) (c0_2 : Nat) (l0_2 : List (S24)) (r : Bool) (w : World) (hr0_2 : Kd.C k24 w A0_2 l0_2.length l0_2) (hc0_2 : l0_2.length ≤ c0_2) (h : expr_StarFree.f k a0_0 a0_1 l0_2 = some r) :
  Calls Try.prog 28 #[.agg #[.int .i64 a0_0, .int .i64 a0_1, .slice A0_2 l0_2.length c0_2]] w fun e w' => e = .returned (.bool r) ∧ Below w.heap.size w w' := by
 have hu24 := Try.underlying24
 have HR0_2 := Aside0.mk hr0_2
 have HC0_2 := Aside0.mk hc0_2
 clear hr0_2 hc0_2
 have HB := Aside0.mk (Below.refl w.heap.size w)
 have H : ((expr_valid.f k a0_0 a0_1 l0_2).bind fun t391 => (if t391 = true then ((expr_height.f k a0_0 a0_1 l0_2).bind fun t392 => (some (t392 == 0))) else (some false))) = some r := h
 clear h
 replace H := Option.bind_eq_some_iff.mp H
 obtain ⟨t391, A20, H⟩ := H
 replace H : (if t391 = true then ((expr_height.f k a0_0 a0_1 l0_2).bind fun t392 => (some (t392 == 0))) else (some false)) = some r := H
 have A2 := Aside0.mk A20
 clear A20
 by_cases c3 : t391 = true
 ·subst c3
  have H1 : ((expr_height.f k a0_0 a0_1 l0_2).bind fun t392 => (some (t392 == 0))) = some r := by rw [if_pos rfl] at H; exact H
  clear H
  have H := H1
  clear H1
  replace H := Option.bind_eq_some_iff.mp H
  obtain ⟨t392, A40, H⟩ := H
  replace H : (some (t392 == 0)) = some r := H
  have A4 := Aside0.mk A40
  clear A40
  obtain rfl := Option.some.inj H
  go_enter Try.func28, Try.ntmps28
  go_wp2_with (first | ((with_reducible refine gate_dst (N := 1) rfl ?_); refine box_event ?hg (N := 1) ?hd (cs := #[.int .i64 a0_0, .int .i64 a0_1, .slice A0_2 l0_2.length c0_2]) (t := 24) ?hr ?_; (case hd => rfl); (case hg => rfl); (case hr => first | (go_simp; done) | (go_simp; rfl)); intro gb390 hg w5 hbox hb; have n0_ := Aside0.mk (below_step (bB) hb); have n1_ := Aside0.mk (hbox); have n2_ := Aside0.mk ((by rw [hg]; exact (below_size (bB)) : w.heap.size ≤ gb390)); have n3_ := Aside0.mk ((by rw [hg]; exact (below_size (bB)) : w.heap.size ≤ gb390)); clear HB; have HB := n0_; have BK390 := n1_; have GW390 := n2_; have GE390 := n3_; clear n0_ n1_ n2_ n3_; clear hb hbox hg; have hcz6_0 : w5.cell? ⟨gb390, 0, none⟩ = some (.int .i64 a0_0) := (blk_cell BK390.out 0).trans rfl; have hcz6_1 : w5.cell? ⟨gb390, 1, none⟩ = some (.int .i64 a0_1) := (blk_cell BK390.out 1).trans rfl; have hcz6_2 : w5.cell? ⟨gb390, 2, none⟩ = some (.slice A0_2 l0_2.length c0_2) := (blk_cell BK390.out 2).trans rfl; have hfz6_0 := blk_frozen BK390.out 0; have hfz6_1 := blk_frozen BK390.out 1; have hfz6_2 := blk_frozen BK390.out 2) | ((with_reducible refine gate_callee (f := 46) rfl ?_); refine goesL_ (some 4) rfl rfl Try.func46 (by kernel_rfl) rfl #[.agg #[.int .i64 a0_0, .int .i64 a0_1, .slice A0_2 l0_2.length c0_2]] rfl (by (try simp only [List.map_toArray, List.map_cons, List.map_nil]); first | done | rfl | (simp only [List.length_drop, List.length_take]; rfl) | (simp only [Int.ofNat_lt, Int.ofNat_le]; rfl)) ?_; (with_reducible refine (expr_valid.calls k a0_0 a0_1 _ _ l0_2 true _ ?side1 ?side2 A2.out).mono ?_); (case side1 => repeat (first | exact (Kd.C_below HR0_2.out HB.out) | (with_reducible refine Kd.C_alloc ?_ _) | (with_reducible refine Kd.C_drewN ?_ _) | (with_reducible refine Kd.C_drew ?_))); (case side2 => exact HC0_2.out); rintro e w7 ⟨rfl, hb⟩; refine ⟨_, rfl, ?_⟩; have n0_ := Aside0.mk (blk_below (g := gb390) (o := .cells #[.int .i64 a0_0, .int .i64 a0_1, .slice A0_2 l0_2.length c0_2] 24 (0, 0)) (bK) hb); have n1_ := Aside0.mk (below_step (bB) hb); clear BK390; clear HB; have BK390 := n0_; have HB := n1_; clear n0_ n1_; (try clear hb); (try clear hb2); (try clear hk); (try clear hi); have hcz8_0 : w7.cell? ⟨gb390, 0, none⟩ = some (.int .i64 a0_0) := (blk_cell BK390.out 0).trans rfl; have hcz8_1 : w7.cell? ⟨gb390, 1, none⟩ = some (.int .i64 a0_1) := (blk_cell BK390.out 1).trans rfl; have hcz8_2 : w7.cell? ⟨gb390, 2, none⟩ = some (.slice A0_2 l0_2.length c0_2) := (blk_cell BK390.out 2).trans rfl; have hfz8_0 := blk_frozen BK390.out 0; have hfz8_1 := blk_frozen BK390.out 1; have hfz8_2 := blk_frozen BK390.out 2) | (go_at_call 56; (with_reducible refine (expr_height.calls k a0_0 a0_1 _ _ l0_2 t392 _ ?side1 ?side2 A4.out).mono ?_); (case side1 => repeat (first | exact (Kd.C_below HR0_2.out HB.out) | (with_reducible refine Kd.C_alloc ?_ _) | (with_reducible refine Kd.C_drewN ?_ _) | (with_reducible refine Kd.C_drew ?_))); (case side2 => exact HC0_2.out); rintro e w9 ⟨rfl, hb⟩; have n0_ := Aside0.mk (blk_below (g := gb390) (o := .cells #[.int .i64 a0_0, .int .i64 a0_1, .slice A0_2 l0_2.length c0_2] 24 (0, 0)) (bK) hb); have n1_ := Aside0.mk (below_step (bB) hb); clear BK390; clear HB; have BK390 := n0_; have HB := n1_; clear n0_ n1_; (try clear hb); (try clear hb2); (try clear hk); (try clear hi)))
  go_ret
  exact ⟨by first | rfl | (simp [errW_none, errW_some] <;> rfl) | (simp [*, errW_none, errW_some] <;> rfl), bB⟩
 ·replace c3 := Bool.eq_false_iff.mpr c3
  subst c3
  have H1 : (some false) = some r := by rw [if_neg (show ¬ (false = true) by decide)] at H; exact H
  clear H
  have H := H1
  clear H1
  obtain rfl := Option.some.inj H
  go_enter Try.func28, Try.ntmps28
  go_wp2_with (first | ((with_reducible refine gate_dst (N := 1) rfl ?_); refine box_event ?hg (N := 1) ?hd (cs := #[.int .i64 a0_0, .int .i64 a0_1, .slice A0_2 l0_2.length c0_2]) (t := 24) ?hr ?_; (case hd => rfl); (case hg => rfl); (case hr => first | (go_simp; done) | (go_simp; rfl)); intro gb390 hg w10 hbox hb; have n0_ := Aside0.mk (below_step (bB) hb); have n1_ := Aside0.mk (hbox); have n2_ := Aside0.mk ((by rw [hg]; exact (below_size (bB)) : w.heap.size ≤ gb390)); have n3_ := Aside0.mk ((by rw [hg]; exact (below_size (bB)) : w.heap.size ≤ gb390)); clear HB; have HB := n0_; have BK390 := n1_; have GW390 := n2_; have GE390 := n3_; clear n0_ n1_ n2_ n3_; clear hb hbox hg; have hcz11_0 : w10.cell? ⟨gb390, 0, none⟩ = some (.int .i64 a0_0) := (blk_cell BK390.out 0).trans rfl; have hcz11_1 : w10.cell? ⟨gb390, 1, none⟩ = some (.int .i64 a0_1) := (blk_cell BK390.out 1).trans rfl; have hcz11_2 : w10.cell? ⟨gb390, 2, none⟩ = some (.slice A0_2 l0_2.length c0_2) := (blk_cell BK390.out 2).trans rfl; have hfz11_0 := blk_frozen BK390.out 0; have hfz11_1 := blk_frozen BK390.out 1; have hfz11_2 := blk_frozen BK390.out 2) | ((with_reducible refine gate_callee (f := 46) rfl ?_); refine goesL_ (some 4) rfl rfl Try.func46 (by kernel_rfl) rfl #[.agg #[.int .i64 a0_0, .int .i64 a0_1, .slice A0_2 l0_2.length c0_2]] rfl (by (try simp only [List.map_toArray, List.map_cons, List.map_nil]); first | done | rfl | (simp only [List.length_drop, List.length_take]; rfl) | (simp only [Int.ofNat_lt, Int.ofNat_le]; rfl)) ?_; (with_reducible refine (expr_valid.calls k a0_0 a0_1 _ _ l0_2 false _ ?side1 ?side2 A2.out).mono ?_); (case side1 => repeat (first | exact (Kd.C_below HR0_2.out HB.out) | (with_reducible refine Kd.C_alloc ?_ _) | (with_reducible refine Kd.C_drewN ?_ _) | (with_reducible refine Kd.C_drew ?_))); (case side2 => exact HC0_2.out); rintro e w12 ⟨rfl, hb⟩; refine ⟨_, rfl, ?_⟩; have n0_ := Aside0.mk (blk_below (g := gb390) (o := .cells #[.int .i64 a0_0, .int .i64 a0_1, .slice A0_2 l0_2.length c0_2] 24 (0, 0)) (bK) hb); have n1_ := Aside0.mk (below_step (bB) hb); clear BK390; clear HB; have BK390 := n0_; have HB := n1_; clear n0_ n1_; (try clear hb); (try clear hb2); (try clear hk); (try clear hi)))
  go_ret
  exact ⟨by first | rfl | (simp [errW_none, errW_some] <;> rfl) | (simp [*, errW_none, errW_some] <;> rfl), bB⟩
end Go.Proofs.Ytjofkebiacaciaa.PAll
end
