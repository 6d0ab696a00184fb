/- The functions that the laws of this seat reach, a proof for each that the Go code comes to them, and the plain laws; merged. Conditions: none beside those of the given statements. -/
import Derived.Test.YtjofkebiacaciaaMc14
import Derived.Test.YtjofkebiacaciaaMc16
section
namespace Go.Proofs.Ytjofkebiacaciaa.PAll
open Go.RowKit Go.Proofs.YtjofkebiacaciaaW.PrintWords Go.Proofs.YtjofkebiacaciaaW.PrintLast Go.Proofs.YtjofkebiacaciaaW.PrintMore
attribute [local go_sem] max2_int min2_int max_two min_two max_three min_three max_four min_four
set_option linter.unusedVariables false
set_option linter.unusedSimpArgs false
def semigroupref01_MayLetters.f (a0 : Int) : Option (Bool) := if a0 ≥ 1 then (some (decide (a0 ≤ 6))) else (some false)
set_option maxHeartbeats 8000000 in
set_option maxRecDepth 100000 in
theorem semigroupref01_MayLetters.calls (a0 : Int) (r : Bool) (w : World) (h : semigroupref01_MayLetters.f a0 = some r) :
  Calls Try.prog 43 #[.int .i64 a0] w fun e w' => e = .returned (.bool r) ∧ Drawn0 w w' := by
 have H : (if a0 ≥ 1 then (some (decide (a0 ≤ 6))) else (some false)) = some r := h
 clear h
 by_cases c2 : a0 ≥ 1
 ·rw [if_pos c2] at H
  have c2b0 : decide (1 ≤ a0) = true := decide_eq_true c2
  clear c2
  obtain rfl := Option.some.inj H
  go_enter Try.func43, Try.ntmps43
  go_wp2
  go_ret
  exact ⟨by first | rfl | (simp; done) | (simp [*]; done), by repeat (first | exact Drawn0.refl _ | apply Drawn0.step)⟩
 ·rw [if_neg c2] at H
  have c2b0 : decide (1 ≤ a0) = false := decide_eq_false c2
  clear c2
  obtain rfl := Option.some.inj H
  go_enter Try.func43, Try.ntmps43
  go_wp2
  go_ret
  exact ⟨by first | rfl | (simp; done) | (simp [*]; done), by repeat (first | exact Drawn0.refl _ | apply Drawn0.step)⟩
end Go.Proofs.Ytjofkebiacaciaa.PAll
end
section
namespace Go.Proofs.Ytjofkebiacaciaa.PAll
open Go.RowKit Go.Proofs.YtjofkebiacaciaaW.PrintWords Go.Proofs.YtjofkebiacaciaaW.PrintLast Go.Proofs.YtjofkebiacaciaaW.PrintMore
attribute [local go_sem] max2_int min2_int max_two min_two max_three min_three max_four min_four
set_option linter.unusedVariables false
set_option linter.unusedSimpArgs false
mutual
def semigroupref04_shaped.j0 : Nat → Int → Int → Bool → Int → Int → List (S24) → Option (Bool)
 | 0, _, _, _, _, _, _ => none
 | k + 1, x1, x5, x6, x116000, x116001, x116002 => if x116000 = 1 then (semigroupref04_shaped.j1 k x1 x5 x6 x116000 (x116000 == 1) x116000 x116001 x116002) else (if x116000 = 2 then (semigroupref04_shaped.j1 k x1 x5 x6 x116000 (x116000 == 2) x116000 x116001 x116002) else (semigroupref04_shaped.j1 k x1 x5 x6 x116000 (x116000 == 3) x116000 x116001 x116002))
def semigroupref04_shaped.j2 : Nat → Int → Int → Bool → Int → Int → List (S24) → Option (Bool)
 | 0, _, _, _, _, _, _ => none
 | k + 1, x1, x5, x6, x116000, x116001, x116002 => if x116000 = 3 then (if x6 = true then (if x116001 ≥ 0 then (semigroupref04_shaped.j3 k x1 x5 (decide (x116001 < x1)) x116000 x116001 x116002) else (semigroupref04_shaped.j3 k x1 x5 false x116000 x116001 x116002)) else (semigroupref04_shaped.j3 k x1 x5 false x116000 x116001 x116002)) else (if x6 = true then (semigroupref04_shaped.j3 k x1 x5 (x116001 == 0) x116000 x116001 x116002) else (semigroupref04_shaped.j3 k x1 x5 false x116000 x116001 x116002))
def semigroupref04_shaped.j3 : Nat → Int → Int → Bool → Int → Int → List (S24) → Option (Bool)
 | 0, _, _, _, _, _, _ => none
 | k + 1, x1, x5, x6, x116000, x116001, x116002 => semigroupref04_shaped.l0 k x1 x5 x6 0 x116000 x116001 x116002
def semigroupref04_shaped.l0 : Nat → Int → Int → Bool → Int → Int → Int → List (S24) → Option (Bool)
 | 0, _, _, _, _, _, _, _ => none
 | k + 1, x1, x5, x6, x7, x116000, x116001, x116002 => if x7 < x5 then (if x6 = true then (if 0 ≤ x7 then (if x7 < (x116002.length : Int) then ((semigroupref04_shaped.f k ((rd_T24 x116002 x7).f0) ((rd_T24 x116002 x7).f1) ((rd_T24 x116002 x7).f2) x1).bind fun t117 => (semigroupref04_shaped.l0 k x1 x5 t117 (wrap64 (x7 + 1)) x116000 x116001 x116002)) else (none)) else (none)) else (some x6)) else (some x6)
def semigroupref04_shaped.j1 : Nat → Int → Int → Bool → Int → Bool → Int → Int → List (S24) → Option (Bool)
 | 0, _, _, _, _, _, _, _, _ => none
 | k + 1, x1, x5, x6, x20, x26, x116000, x116001, x116002 => if x26 = true then (semigroupref04_shaped.j2 k x1 x5 (x5 == 0) x116000 x116001 x116002) else (if x20 = 7 then (semigroupref04_shaped.j2 k x1 x5 (x5 == 1) x116000 x116001 x116002) else (if x20 = 8 then (semigroupref04_shaped.j2 k x1 x5 (x5 == 1) x116000 x116001 x116002) else (if x6 = true then (semigroupref04_shaped.j2 k x1 x5 (decide (x5 ≥ 2)) x116000 x116001 x116002) else (semigroupref04_shaped.j2 k x1 x5 false x116000 x116001 x116002))))
def semigroupref04_shaped.f : Nat → Int → Int → List (S24) → Int → Option (Bool)
 | 0, _, _, _, _ => none
 | k + 1, a0_0, a0_1, l0_2, a1 => if a0_0 ≥ 1 then (semigroupref04_shaped.j0 k a1 (l0_2.length : Int) (decide (a0_0 ≤ 8)) a0_0 a0_1 l0_2) else (semigroupref04_shaped.j0 k a1 (l0_2.length : Int) false a0_0 a0_1 l0_2)
end
theorem semigroupref04_shaped.mono_l : ∀ k, (∀ y0 y1 y2 y3, LeO (semigroupref04_shaped.f k y0 y1 y2 y3) (semigroupref04_shaped.f (k + 1) y0 y1 y2 y3)) ∧ (∀ y0 y1 y2 y3 y4 y5, LeO (semigroupref04_shaped.j0 k y0 y1 y2 y3 y4 y5) (semigroupref04_shaped.j0 (k + 1) y0 y1 y2 y3 y4 y5)) ∧ (∀ y0 y1 y2 y3 y4 y5, LeO (semigroupref04_shaped.j2 k y0 y1 y2 y3 y4 y5) (semigroupref04_shaped.j2 (k + 1) y0 y1 y2 y3 y4 y5)) ∧ (∀ y0 y1 y2 y3 y4 y5, LeO (semigroupref04_shaped.j3 k y0 y1 y2 y3 y4 y5) (semigroupref04_shaped.j3 (k + 1) y0 y1 y2 y3 y4 y5)) ∧ (∀ y0 y1 y2 y3 y4 y5 y6, LeO (semigroupref04_shaped.l0 k y0 y1 y2 y3 y4 y5 y6) (semigroupref04_shaped.l0 (k + 1) y0 y1 y2 y3 y4 y5 y6)) ∧ (∀ y0 y1 y2 y3 y4 y5 y6 y7, LeO (semigroupref04_shaped.j1 k y0 y1 y2 y3 y4 y5 y6 y7) (semigroupref04_shaped.j1 (k + 1) y0 y1 y2 y3 y4 y5 y6 y7))
 | 0 => ⟨fun _ _ _ _ r h => by simp [semigroupref04_shaped.f] at h, fun _ _ _ _ _ _ r h => by simp [semigroupref04_shaped.j0] at h, fun _ _ _ _ _ _ r h => by simp [semigroupref04_shaped.j2] at h, fun _ _ _ _ _ _ r h => by simp [semigroupref04_shaped.j3] at h, fun _ _ _ _ _ _ _ r h => by simp [semigroupref04_shaped.l0] at h, fun _ _ _ _ _ _ _ _ r h => by simp [semigroupref04_shaped.j1] at h⟩
 | k + 1 => by
  obtain ⟨ih0, ih1, ih2, ih3, ih4, ih5⟩ := semigroupref04_shaped.mono_l k
  refine ⟨?_, ?_, ?_, ?_, ?_, ?_⟩
  ·intro y0 y1 y2 y3
   unfold semigroupref04_shaped.f
   repeat' first
   | (with_reducible exact ih0 _ _ _ _)
   | (with_reducible exact ih1 _ _ _ _ _ _)
   | (with_reducible exact ih2 _ _ _ _ _ _)
   | (with_reducible exact ih3 _ _ _ _ _ _)
   | (with_reducible exact ih4 _ _ _ _ _ _ _)
   | (with_reducible exact ih5 _ _ _ _ _ _ _ _)
   | (with_reducible exact LeO.refl _)
   | (with_reducible exact LeO.none _)
   | (with_reducible refine LeO.ite ?_ ?_)
   | (with_reducible refine LeO.bind ?_ (fun _ => ?_))
   | exact ih0 _ _ _ _
   | exact ih1 _ _ _ _ _ _
   | exact ih2 _ _ _ _ _ _
   | exact ih3 _ _ _ _ _ _
   | exact ih4 _ _ _ _ _ _ _
   | exact ih5 _ _ _ _ _ _ _ _
   | exact LeO.none _
   | refine LeO.ite ?_ ?_
   | refine LeO.bind ?_ (fun _ => ?_)
  ·intro y0 y1 y2 y3 y4 y5
   unfold semigroupref04_shaped.j0
   repeat' first
   | (with_reducible exact ih0 _ _ _ _)
   | (with_reducible exact ih1 _ _ _ _ _ _)
   | (with_reducible exact ih2 _ _ _ _ _ _)
   | (with_reducible exact ih3 _ _ _ _ _ _)
   | (with_reducible exact ih4 _ _ _ _ _ _ _)
   | (with_reducible exact ih5 _ _ _ _ _ _ _ _)
   | (with_reducible exact LeO.refl _)
   | (with_reducible exact LeO.none _)
   | (with_reducible refine LeO.ite ?_ ?_)
   | (with_reducible refine LeO.bind ?_ (fun _ => ?_))
   | exact ih0 _ _ _ _
   | exact ih1 _ _ _ _ _ _
   | exact ih2 _ _ _ _ _ _
   | exact ih3 _ _ _ _ _ _
   | exact ih4 _ _ _ _ _ _ _
   | exact ih5 _ _ _ _ _ _ _ _
   | exact LeO.none _
   | refine LeO.ite ?_ ?_
   | refine LeO.bind ?_ (fun _ => ?_)
  ·intro y0 y1 y2 y3 y4 y5
   unfold semigroupref04_shaped.j2
   repeat' first
   | (with_reducible exact ih0 _ _ _ _)
   | (with_reducible exact ih1 _ _ _ _ _ _)
   | (with_reducible exact ih2 _ _ _ _ _ _)
   | (with_reducible exact ih3 _ _ _ _ _ _)
   | (with_reducible exact ih4 _ _ _ _ _ _ _)
   | (with_reducible exact ih5 _ _ _ _ _ _ _ _)
   | (with_reducible exact LeO.refl _)
   | (with_reducible exact LeO.none _)
   | (with_reducible refine LeO.ite ?_ ?_)
   | (with_reducible refine LeO.bind ?_ (fun _ => ?_))
   | exact ih0 _ _ _ _
   | exact ih1 _ _ _ _ _ _
   | exact ih2 _ _ _ _ _ _
   | exact ih3 _ _ _ _ _ _
   | exact ih4 _ _ _ _ _ _ _
   | exact ih5 _ _ _ _ _ _ _ _
   | exact LeO.none _
   | refine LeO.ite ?_ ?_
   | refine LeO.bind ?_ (fun _ => ?_)
  ·intro y0 y1 y2 y3 y4 y5
   unfold semigroupref04_shaped.j3
   repeat' first
   | (with_reducible exact ih0 _ _ _ _)
   | (with_reducible exact ih1 _ _ _ _ _ _)
   | (with_reducible exact ih2 _ _ _ _ _ _)
   | (with_reducible exact ih3 _ _ _ _ _ _)
   | (with_reducible exact ih4 _ _ _ _ _ _ _)
   | (with_reducible exact ih5 _ _ _ _ _ _ _ _)
   | (with_reducible exact LeO.refl _)
   | (with_reducible exact LeO.none _)
   | (with_reducible refine LeO.ite ?_ ?_)
   | (with_reducible refine LeO.bind ?_ (fun _ => ?_))
   | exact ih0 _ _ _ _
   | exact ih1 _ _ _ _ _ _
   | exact ih2 _ _ _ _ _ _
   | exact ih3 _ _ _ _ _ _
   | exact ih4 _ _ _ _ _ _ _
   | exact ih5 _ _ _ _ _ _ _ _
   | exact LeO.none _
   | refine LeO.ite ?_ ?_
   | refine LeO.bind ?_ (fun _ => ?_)
  ·intro y0 y1 y2 y3 y4 y5 y6
   unfold semigroupref04_shaped.l0
   repeat' first
   | (with_reducible exact ih0 _ _ _ _)
   | (with_reducible exact ih1 _ _ _ _ _ _)
   | (with_reducible exact ih2 _ _ _ _ _ _)
   | (with_reducible exact ih3 _ _ _ _ _ _)
   | (with_reducible exact ih4 _ _ _ _ _ _ _)
   | (with_reducible exact ih5 _ _ _ _ _ _ _ _)
   | (with_reducible exact LeO.refl _)
   | (with_reducible exact LeO.none _)
   | (with_reducible refine LeO.ite ?_ ?_)
   | (with_reducible refine LeO.bind ?_ (fun _ => ?_))
   | exact ih0 _ _ _ _
   | exact ih1 _ _ _ _ _ _
   | exact ih2 _ _ _ _ _ _
   | exact ih3 _ _ _ _ _ _
   | exact ih4 _ _ _ _ _ _ _
   | exact ih5 _ _ _ _ _ _ _ _
   | exact LeO.none _
   | refine LeO.ite ?_ ?_
   | refine LeO.bind ?_ (fun _ => ?_)
  ·intro y0 y1 y2 y3 y4 y5 y6 y7
   unfold semigroupref04_shaped.j1
   repeat' first
   | (with_reducible exact ih0 _ _ _ _)
   | (with_reducible exact ih1 _ _ _ _ _ _)
   | (with_reducible exact ih2 _ _ _ _ _ _)
   | (with_reducible exact ih3 _ _ _ _ _ _)
   | (with_reducible exact ih4 _ _ _ _ _ _ _)
   | (with_reducible exact ih5 _ _ _ _ _ _ _ _)
   | (with_reducible exact LeO.refl _)
   | (with_reducible exact LeO.none _)
   | (with_reducible refine LeO.ite ?_ ?_)
   | (with_reducible refine LeO.bind ?_ (fun _ => ?_))
   | exact ih0 _ _ _ _
   | exact ih1 _ _ _ _ _ _
   | exact ih2 _ _ _ _ _ _
   | exact ih3 _ _ _ _ _ _
   | exact ih4 _ _ _ _ _ _ _
   | exact ih5 _ _ _ _ _ _ _ _
   | exact LeO.none _
   | refine LeO.ite ?_ ?_
   | refine LeO.bind ?_ (fun _ => ?_)
theorem semigroupref04_shaped.mono : ∀ a0 a1 a2 a3 k, LeO (semigroupref04_shaped.f k a0 a1 a2 a3) (semigroupref04_shaped.f (k + 1) a0 a1 a2 a3) := by
 intro a0 a1 a2 a3 k
 obtain ⟨ih0, ih1, ih2, ih3, ih4, ih5⟩ := semigroupref04_shaped.mono_l k
 exact ih0 a0 a1 a2 a3
set_option maxHeartbeats 8000000 in
set_option maxRecDepth 100000 in
theorem semigroupref04_shaped.calls (k : Nat) : ∀ (a0_0 : Int) (a0_1 : Int) (A0_2 : Option Addr) (c0_2 : Nat) (l0_2 : List (S24)) (a1 : Int) (r : Bool) (w : World) (hr0_2 : Kd.C k24 w A0_2 l0_2.length l0_2) (hc0_2 : l0_2.length ≤ c0_2) (h : semigroupref04_shaped.f k a0_0 a0_1 l0_2 a1 = some r),
  Calls Try.prog 45 #[.agg #[.int .i64 a0_0, .int .i64 a0_1, .slice A0_2 l0_2.length c0_2], .int .i64 a1] w fun e w' => e = .returned (.bool r) ∧ Below w.heap.size w w' := by
 induction k using Nat.strongRecOn with
 | _ k ih =>
 intro a0_0 a0_1 A0_2 c0_2 l0_2 a1 r w hr0_2 hc0_2 h
 cases k with
 | zero => exact absurd h (by simp [semigroupref04_shaped.f])
 | succ k =>
 simp only [semigroupref04_shaped.f] at h
 have hu24 := Try.underlying24
 have HR0_2 := Aside0.mk hr0_2
 have HC0_2 := Aside0.mk hc0_2
 clear hr0_2 hc0_2
 have HB := Aside0.mk (Below.refl w.heap.size w)
 have H : (if a0_0 ≥ 1 then (semigroupref04_shaped.j0 k a1 (l0_2.length : Int) (decide (a0_0 ≤ 8)) a0_0 a0_1 l0_2) else (semigroupref04_shaped.j0 k a1 (l0_2.length : Int) false a0_0 a0_1 l0_2)) = some r := h
 clear h
 have HC3 := Aside0.mk H
 clear H
 go_enter Try.func45, Try.ntmps45
 go_upto_region 2 with (first | ((with_reducible refine gate_dst (N := 2) rfl ?_); refine box_event ?hg (N := 2) ?hd (cs := #[.int .i64 a0_0, .int .i64 a0_1, .slice A0_2 l0_2.length c0_2]) (t := 24) ?hr ?_; (case hd => rfl); (case hg => rfl); (case hr => first | (go_simp; done) | (go_simp; rfl)); intro gb115 hg w4 hbox hb; have n0_ := Aside0.mk (below_step (bB) hb); have n1_ := Aside0.mk (hbox); have n2_ := Aside0.mk ((by rw [hg]; exact (below_size (bB)) : w.heap.size ≤ gb115)); have n3_ := Aside0.mk ((by rw [hg]; exact (below_size (bB)) : w.heap.size ≤ gb115)); clear HB; have HB := n0_; have BK115 := n1_; have GW115 := n2_; have GE115 := n3_; clear n0_ n1_ n2_ n3_; clear hb hbox hg; have hcz5_0 : w4.cell? ⟨gb115, 0, none⟩ = some (.int .i64 a0_0) := (blk_cell BK115.out 0).trans rfl; have hcz5_1 : w4.cell? ⟨gb115, 1, none⟩ = some (.int .i64 a0_1) := (blk_cell BK115.out 1).trans rfl; have hcz5_2 : w4.cell? ⟨gb115, 2, none⟩ = some (.slice A0_2 l0_2.length c0_2) := (blk_cell BK115.out 2).trans rfl; have hfz5_0 := blk_frozen BK115.out 0; have hfz5_1 := blk_frozen BK115.out 1; have hfz5_2 := blk_frozen BK115.out 2))
 (try simp only [Act.put, List.setIfInBounds_toArray, List.set_cons_zero, List.set_cons_succ])
 go_cut [6] (fun v6 wc => ∃ (kq : Nat) (x6_2 : Bool), v6 = .bool x6_2 ∧ Aside0 (semigroupref04_shaped.j0 kq a1 (l0_2.length : Int) x6_2 a0_0 a0_1 l0_2 = some r) ∧ Aside0 (kq ≤ k) ∧ Aside0 (wc.heap[gb115]? = some (.cells #[.int .i64 a0_0, .int .i64 a0_1, (.slice A0_2 l0_2.length c0_2)] 24 (0, 0))) ∧ Aside0 (Below w.heap.size w wc))
 case first =>
  have H := HC3.out
  clear HC3
  by_cases c6 : a0_0 ≥ 1
  ·rw [if_pos c6] at H
   have c6b0 : decide (1 ≤ a0_0) = true := decide_eq_true c6
   clear c6
   (first | rw [c6b0] | (simp only [i64_w, i32_w]; rw [c6b0]) | skip)
   have H' := Aside0.mk H
   clear H
   have hcz7_0 : w4.cell? ⟨gb115, 0, none⟩ = some (.int .i64 a0_0) := (blk_cell BK115.out 0).trans rfl
   have hcz7_1 : w4.cell? ⟨gb115, 1, none⟩ = some (.int .i64 a0_1) := (blk_cell BK115.out 1).trans rfl
   have hcz7_2 : w4.cell? ⟨gb115, 2, none⟩ = some (.slice A0_2 l0_2.length c0_2) := (blk_cell BK115.out 2).trans rfl
   have hfz7_0 := blk_frozen BK115.out 0
   have hfz7_1 := blk_frozen BK115.out 1
   have hfz7_2 := blk_frozen BK115.out 2
   go_wp2
   go_meet
   case rel => exact ⟨_, (decide (a0_0 ≤ 8)), (by first | rfl | (simp; done) | (simp [*]; done)), H', ⟨by first | omega | exact Nat.le_refl _⟩, ⟨bK⟩, ⟨bB⟩⟩
  ·rw [if_neg c6] at H
   have c6b0 : decide (1 ≤ a0_0) = false := decide_eq_false c6
   clear c6
   (first | rw [c6b0] | (simp only [i64_w, i32_w]; rw [c6b0]) | skip)
   have H' := Aside0.mk H
   clear H
   have hcz8_0 : w4.cell? ⟨gb115, 0, none⟩ = some (.int .i64 a0_0) := (blk_cell BK115.out 0).trans rfl
   have hcz8_1 : w4.cell? ⟨gb115, 1, none⟩ = some (.int .i64 a0_1) := (blk_cell BK115.out 1).trans rfl
   have hcz8_2 : w4.cell? ⟨gb115, 2, none⟩ = some (.slice A0_2 l0_2.length c0_2) := (blk_cell BK115.out 2).trans rfl
   have hfz8_0 := blk_frozen BK115.out 0
   have hfz8_1 := blk_frozen BK115.out 1
   have hfz8_2 := blk_frozen BK115.out 2
   go_wp2
   go_meet
   case rel => exact ⟨_, (false), (by first | rfl | (simp; done) | (simp [*]; done)), H', ⟨by first | omega | exact Nat.le_refl _⟩, ⟨bK⟩, ⟨bB⟩⟩
 case rest =>
  clear HC3
  try clear p2
  try clear c4
  try clear c6
  try clear c6b0
  try clear hcz5_0
  try clear hcz5_1
  try clear hcz5_2
  try clear hcz7_0
  try clear hcz7_1
  try clear hcz7_2
  try clear hcz8_0
  try clear hcz8_1
  try clear hcz8_2
  try clear hfz5_0
  try clear hfz5_1
  try clear hfz5_2
  try clear hfz7_0
  try clear hfz7_1
  try clear hfz7_2
  try clear hfz8_0
  try clear hfz8_1
  try clear hfz8_2
  obtain ⟨kq, x6_2, rfl, HA, HJ2, BK115, HB⟩ := hcut
  cases kq with
  | zero => exact absurd HA.out (by simp [semigroupref04_shaped.j0])
  | succ kj2 =>
   have H := HA.out
   clear HA
   simp only [semigroupref04_shaped.j0] at H
   have HC9 := Aside0.mk H
   clear H
   have hcz10_0 : wc.cell? ⟨gb115, 0, none⟩ = some (.int .i64 a0_0) := (blk_cell BK115.out 0).trans rfl
   have hcz10_1 : wc.cell? ⟨gb115, 1, none⟩ = some (.int .i64 a0_1) := (blk_cell BK115.out 1).trans rfl
   have hcz10_2 : wc.cell? ⟨gb115, 2, none⟩ = some (.slice A0_2 l0_2.length c0_2) := (blk_cell BK115.out 2).trans rfl
   have hfz10_0 := blk_frozen BK115.out 0
   have hfz10_1 := blk_frozen BK115.out 1
   have hfz10_2 := blk_frozen BK115.out 2
   go_upto_block 0 with (fail)
   go_cut [6] (fun v6 wc => ∃ (kq : Nat) (x6_8 : Bool), v6 = .bool x6_8 ∧ Aside0 (semigroupref04_shaped.j2 kq a1 (l0_2.length : Int) x6_8 a0_0 a0_1 l0_2 = some r) ∧ Aside0 (kq ≤ kj2) ∧ Aside0 (wc.heap[gb115]? = some (.cells #[.int .i64 a0_0, .int .i64 a0_1, (.slice A0_2 l0_2.length c0_2)] 24 (0, 0))) ∧ Aside0 (Below w.heap.size w wc))
   case first =>
    have H := HC9.out
    clear HC9
    have HC11 := Aside0.mk H
    clear H
    go_upto_if 26 with (fail)
    go_cut [26] (fun v26 wc => ∃ (kq : Nat) (x26_10 : Bool), v26 = .bool x26_10 ∧ Aside0 (semigroupref04_shaped.j1 kq a1 (l0_2.length : Int) x6_2 a0_0 x26_10 a0_0 a0_1 l0_2 = some r) ∧ Aside0 (kq ≤ kj2) ∧ Aside0 (wc.heap[gb115]? = some (.cells #[.int .i64 a0_0, .int .i64 a0_1, (.slice A0_2 l0_2.length c0_2)] 24 (0, 0))) ∧ Aside0 (Below w.heap.size w wc))
    case first =>
     have H := HC11.out
     clear HC11
     by_cases c12 : a0_0 = 1
     ·rw [if_pos c12] at H
      have c12b0 : (a0_0 == 1) = true := beq_iff_eq.mpr c12
      have c12b1 : (a0_0 != 1) = false := bne_eq_false_iff_eq.mpr c12
      clear c12
      (first | rw [c12b0] | (simp only [i64_w, i32_w]; rw [c12b0]) | skip)
      have H' := Aside0.mk H
      clear H
      go_wp2
      go_meet
      case rel => exact ⟨_, ((a0_0 == 1)), (by first | rfl | (simp; done) | (simp [*]; done)), H', ⟨by have := HJ2.out; first | omega | exact Nat.le_refl _⟩, ⟨bK⟩, ⟨bB⟩⟩
     ·rw [if_neg c12] at H
      have c12b0 : (a0_0 == 1) = false := beq_eq_false_iff_ne.mpr c12
      have c12b1 : (a0_0 != 1) = true := bne_iff_ne.mpr c12
      (first | rw [c12b0] | (simp only [i64_w, i32_w]; rw [c12b0]) | skip)
      by_cases c13 : a0_0 = 2
      ·rw [if_pos c13] at H
       have c13b0 : (a0_0 == 2) = true := beq_iff_eq.mpr c13
       have c13b1 : (a0_0 != 2) = false := bne_eq_false_iff_eq.mpr c13
       clear c13
       have H' := Aside0.mk H
       clear H
       go_wp2
       go_meet
       case rel => exact ⟨_, ((a0_0 == 2)), (by first | rfl | (simp; done) | (simp [*]; done)), H', ⟨by have := HJ2.out; first | omega | exact Nat.le_refl _⟩, ⟨bK⟩, ⟨bB⟩⟩
      ·rw [if_neg c13] at H
       have c13b0 : (a0_0 == 2) = false := beq_eq_false_iff_ne.mpr c13
       have c13b1 : (a0_0 != 2) = true := bne_iff_ne.mpr c13
       have H' := Aside0.mk H
       clear H
       go_wp2
       go_meet
       case rel => exact ⟨_, ((a0_0 == 3)), (by first | rfl | (simp; done) | (simp [*]; done)), H', ⟨by have := HJ2.out; first | omega | exact Nat.le_refl _⟩, ⟨bK⟩, ⟨bB⟩⟩
    case rest =>
     clear HC11
     try clear c1
     try clear p2
     try clear c4
     try clear c6
     try clear c6b0
     try clear c12
     try clear c12b0
     try clear c12b1
     try clear c13
     try clear c13b0
     try clear c13b1
     try clear hcz10_0
     try clear hcz10_1
     try clear hcz10_2
     try clear hcz5_0
     try clear hcz5_1
     try clear hcz5_2
     try clear hcz7_0
     try clear hcz7_1
     try clear hcz7_2
     try clear hcz8_0
     try clear hcz8_1
     try clear hcz8_2
     try clear hfz10_0
     try clear hfz10_1
     try clear hfz10_2
     try clear hfz5_0
     try clear hfz5_1
     try clear hfz5_2
     try clear hfz7_0
     try clear hfz7_1
     try clear hfz7_2
     try clear hfz8_0
     try clear hfz8_1
     try clear hfz8_2
     try clear p2
     obtain ⟨kq, x26_10, rfl, HA, HJ10, BK115, HB⟩ := hcut
     cases kq with
     | zero => exact absurd HA.out (by simp [semigroupref04_shaped.j1])
     | succ kj10 =>
      have H := HA.out
      clear HA
      simp only [semigroupref04_shaped.j1] at H
      by_cases c14 : x26_10 = true
      ·subst c14
       have H1 : (semigroupref04_shaped.j2 kj10 a1 (l0_2.length : Int) ((l0_2.length : Int) == 0) a0_0 a0_1 l0_2) = some r := by rw [if_pos rfl] at H; exact H
       clear H
       have H := H1
       clear H1
       have H' := Aside0.mk H
       clear H
       go_wp2
       go_meet
       case rel => exact ⟨_, (((l0_2.length : Int) == 0)), (by first | rfl | (simp; done) | (simp [*]; done)), H', ⟨by have := HJ2.out; have := HJ10.out; first | omega | exact Nat.le_refl _⟩, ⟨bK⟩, ⟨bB⟩⟩
      ·replace c14 := Bool.eq_false_iff.mpr c14
       subst c14
       have H1 : (if a0_0 = 7 then (semigroupref04_shaped.j2 kj10 a1 (l0_2.length : Int) ((l0_2.length : Int) == 1) a0_0 a0_1 l0_2) else (if a0_0 = 8 then (semigroupref04_shaped.j2 kj10 a1 (l0_2.length : Int) ((l0_2.length : Int) == 1) a0_0 a0_1 l0_2) else (if x6_2 = true then (semigroupref04_shaped.j2 kj10 a1 (l0_2.length : Int) (decide ((l0_2.length : Int) ≥ 2)) a0_0 a0_1 l0_2) else (semigroupref04_shaped.j2 kj10 a1 (l0_2.length : Int) false a0_0 a0_1 l0_2)))) = some r := by rw [if_neg (show ¬ (false = true) by decide)] at H; exact H
       clear H
       have H := H1
       clear H1
       by_cases c15 : a0_0 = 7
       ·rw [if_pos c15] at H
        have c15b0 : (a0_0 == 7) = true := beq_iff_eq.mpr c15
        have c15b1 : (a0_0 != 7) = false := bne_eq_false_iff_eq.mpr c15
        clear c15
        have H' := Aside0.mk H
        clear H
        go_wp2
        go_meet
        case rel => exact ⟨_, (((l0_2.length : Int) == 1)), (by first | rfl | (simp; done) | (simp [*]; done)), H', ⟨by have := HJ2.out; have := HJ10.out; first | omega | exact Nat.le_refl _⟩, ⟨bK⟩, ⟨bB⟩⟩
       ·rw [if_neg c15] at H
        have c15b0 : (a0_0 == 7) = false := beq_eq_false_iff_ne.mpr c15
        have c15b1 : (a0_0 != 7) = true := bne_iff_ne.mpr c15
        by_cases c16 : a0_0 = 8
        ·rw [if_pos c16] at H
         have c16b0 : (a0_0 == 8) = true := beq_iff_eq.mpr c16
         have c16b1 : (a0_0 != 8) = false := bne_eq_false_iff_eq.mpr c16
         clear c16
         have H' := Aside0.mk H
         clear H
         go_wp2
         go_meet
         case rel => exact ⟨_, (((l0_2.length : Int) == 1)), (by first | rfl | (simp; done) | (simp [*]; done)), H', ⟨by have := HJ2.out; have := HJ10.out; first | omega | exact Nat.le_refl _⟩, ⟨bK⟩, ⟨bB⟩⟩
        ·rw [if_neg c16] at H
         have c16b0 : (a0_0 == 8) = false := beq_eq_false_iff_ne.mpr c16
         have c16b1 : (a0_0 != 8) = true := bne_iff_ne.mpr c16
         by_cases c17 : x6_2 = true
         ·subst c17
          have H1 : (semigroupref04_shaped.j2 kj10 a1 (l0_2.length : Int) (decide ((l0_2.length : Int) ≥ 2)) a0_0 a0_1 l0_2) = some r := by rw [if_pos rfl] at H; exact H
          clear H
          have H := H1
          clear H1
          have H' := Aside0.mk H
          clear H
          go_wp2
          go_meet
          case rel => exact ⟨_, (decide ((l0_2.length : Int) ≥ 2)), (by first | rfl | (simp; done) | (simp [*]; done)), H', ⟨by have := HJ2.out; have := HJ10.out; first | omega | exact Nat.le_refl _⟩, ⟨bK⟩, ⟨bB⟩⟩
         ·replace c17 := Bool.eq_false_iff.mpr c17
          subst c17
          have H1 : (semigroupref04_shaped.j2 kj10 a1 (l0_2.length : Int) false a0_0 a0_1 l0_2) = some r := by rw [if_neg (show ¬ (false = true) by decide)] at H; exact H
          clear H
          have H := H1
          clear H1
          have H' := Aside0.mk H
          clear H
          go_wp2
          go_meet
          case rel => exact ⟨_, (false), (by first | rfl | (simp; done) | (simp [*]; done)), H', ⟨by have := HJ2.out; have := HJ10.out; first | omega | exact Nat.le_refl _⟩, ⟨bK⟩, ⟨bB⟩⟩
   case rest =>
    clear HC9
    try clear c1
    try clear p2
    try clear c4
    try clear c6
    try clear c6b0
    try clear c12
    try clear c12b0
    try clear c12b1
    try clear c13
    try clear c13b0
    try clear c13b1
    try clear c14
    try clear c15
    try clear c15b0
    try clear c15b1
    try clear c16
    try clear c16b0
    try clear c16b1
    try clear c17
    try clear hcz10_0
    try clear hcz10_1
    try clear hcz10_2
    try clear hcz5_0
    try clear hcz5_1
    try clear hcz5_2
    try clear hcz7_0
    try clear hcz7_1
    try clear hcz7_2
    try clear hcz8_0
    try clear hcz8_1
    try clear hcz8_2
    try clear hfz10_0
    try clear hfz10_1
    try clear hfz10_2
    try clear hfz5_0
    try clear hfz5_1
    try clear hfz5_2
    try clear hfz7_0
    try clear hfz7_1
    try clear hfz7_2
    try clear hfz8_0
    try clear hfz8_1
    try clear hfz8_2
    try clear p2
    obtain ⟨kq, x6_8, rfl, HA, HJ8, BK115, HB⟩ := hcut
    cases kq with
    | zero => exact absurd HA.out (by simp [semigroupref04_shaped.j2])
    | succ kj8 =>
     have H := HA.out
     clear HA
     simp only [semigroupref04_shaped.j2] at H
     have HC18 := Aside0.mk H
     clear H
     have hcz19_0 : wc.cell? ⟨gb115, 0, none⟩ = some (.int .i64 a0_0) := (blk_cell BK115.out 0).trans rfl
     have hcz19_1 : wc.cell? ⟨gb115, 1, none⟩ = some (.int .i64 a0_1) := (blk_cell BK115.out 1).trans rfl
     have hcz19_2 : wc.cell? ⟨gb115, 2, none⟩ = some (.slice A0_2 l0_2.length c0_2) := (blk_cell BK115.out 2).trans rfl
     have hfz19_0 := blk_frozen BK115.out 0
     have hfz19_1 := blk_frozen BK115.out 1
     have hfz19_2 := blk_frozen BK115.out 2
     go_upto_if 39 with (fail)
     go_cut [6] (fun v6 wc => ∃ (kq : Nat) (x6_17 : Bool), v6 = .bool x6_17 ∧ Aside0 (semigroupref04_shaped.j3 kq a1 (l0_2.length : Int) x6_17 a0_0 a0_1 l0_2 = some r) ∧ Aside0 (kq ≤ kj8) ∧ Aside0 (wc.heap[gb115]? = some (.cells #[.int .i64 a0_0, .int .i64 a0_1, (.slice A0_2 l0_2.length c0_2)] 24 (0, 0))) ∧ Aside0 (Below w.heap.size w wc))
     case first =>
      have H := HC18.out
      clear HC18
      by_cases c20 : a0_0 = 3
      ·rw [if_pos c20] at H
       have c20b0 : (a0_0 == 3) = true := beq_iff_eq.mpr c20
       have c20b1 : (a0_0 != 3) = false := bne_eq_false_iff_eq.mpr c20
       clear c20
       (first | rw [c20b0] | (simp only [i64_w, i32_w]; rw [c20b0]) | skip)
       by_cases c21 : x6_8 = true
       ·subst c21
        have H1 : (if a0_1 ≥ 0 then (semigroupref04_shaped.j3 kj8 a1 (l0_2.length : Int) (decide (a0_1 < a1)) a0_0 a0_1 l0_2) else (semigroupref04_shaped.j3 kj8 a1 (l0_2.length : Int) false a0_0 a0_1 l0_2)) = some r := by rw [if_pos rfl] at H; exact H
        clear H
        have H := H1
        clear H1
        by_cases c22 : a0_1 ≥ 0
        ·rw [if_pos c22] at H
         have c22b0 : decide (0 ≤ a0_1) = true := decide_eq_true c22
         clear c22
         have H' := Aside0.mk H
         clear H
         have hcz23_0 : wc.cell? ⟨gb115, 0, none⟩ = some (.int .i64 a0_0) := (blk_cell BK115.out 0).trans rfl
         have hcz23_1 : wc.cell? ⟨gb115, 1, none⟩ = some (.int .i64 a0_1) := (blk_cell BK115.out 1).trans rfl
         have hcz23_2 : wc.cell? ⟨gb115, 2, none⟩ = some (.slice A0_2 l0_2.length c0_2) := (blk_cell BK115.out 2).trans rfl
         have hfz23_0 := blk_frozen BK115.out 0
         have hfz23_1 := blk_frozen BK115.out 1
         have hfz23_2 := blk_frozen BK115.out 2
         go_wp2
         go_meet
         case rel => exact ⟨_, (decide (a0_1 < a1)), (by first | rfl | (simp; done) | (simp [*]; done)), H', ⟨by have := HJ2.out; have := HJ8.out; first | omega | exact Nat.le_refl _⟩, ⟨bK⟩, ⟨bB⟩⟩
        ·rw [if_neg c22] at H
         have c22b0 : decide (0 ≤ a0_1) = false := decide_eq_false c22
         clear c22
         have H' := Aside0.mk H
         clear H
         have hcz24_0 : wc.cell? ⟨gb115, 0, none⟩ = some (.int .i64 a0_0) := (blk_cell BK115.out 0).trans rfl
         have hcz24_1 : wc.cell? ⟨gb115, 1, none⟩ = some (.int .i64 a0_1) := (blk_cell BK115.out 1).trans rfl
         have hcz24_2 : wc.cell? ⟨gb115, 2, none⟩ = some (.slice A0_2 l0_2.length c0_2) := (blk_cell BK115.out 2).trans rfl
         have hfz24_0 := blk_frozen BK115.out 0
         have hfz24_1 := blk_frozen BK115.out 1
         have hfz24_2 := blk_frozen BK115.out 2
         go_wp2
         go_meet
         case rel => exact ⟨_, (false), (by first | rfl | (simp; done) | (simp [*]; done)), H', ⟨by have := HJ2.out; have := HJ8.out; first | omega | exact Nat.le_refl _⟩, ⟨bK⟩, ⟨bB⟩⟩
       ·replace c21 := Bool.eq_false_iff.mpr c21
        subst c21
        have H1 : (semigroupref04_shaped.j3 kj8 a1 (l0_2.length : Int) false a0_0 a0_1 l0_2) = some r := by rw [if_neg (show ¬ (false = true) by decide)] at H; exact H
        clear H
        have H := H1
        clear H1
        have H' := Aside0.mk H
        clear H
        go_wp2
        go_meet
        case rel => exact ⟨_, (false), (by first | rfl | (simp; done) | (simp [*]; done)), H', ⟨by have := HJ2.out; have := HJ8.out; first | omega | exact Nat.le_refl _⟩, ⟨bK⟩, ⟨bB⟩⟩
      ·rw [if_neg c20] at H
       have c20b0 : (a0_0 == 3) = false := beq_eq_false_iff_ne.mpr c20
       have c20b1 : (a0_0 != 3) = true := bne_iff_ne.mpr c20
       (first | rw [c20b0] | (simp only [i64_w, i32_w]; rw [c20b0]) | skip)
       by_cases c25 : x6_8 = true
       ·subst c25
        have H1 : (semigroupref04_shaped.j3 kj8 a1 (l0_2.length : Int) (a0_1 == 0) a0_0 a0_1 l0_2) = some r := by rw [if_pos rfl] at H; exact H
        clear H
        have H := H1
        clear H1
        have H' := Aside0.mk H
        clear H
        have hcz26_0 : wc.cell? ⟨gb115, 0, none⟩ = some (.int .i64 a0_0) := (blk_cell BK115.out 0).trans rfl
        have hcz26_1 : wc.cell? ⟨gb115, 1, none⟩ = some (.int .i64 a0_1) := (blk_cell BK115.out 1).trans rfl
        have hcz26_2 : wc.cell? ⟨gb115, 2, none⟩ = some (.slice A0_2 l0_2.length c0_2) := (blk_cell BK115.out 2).trans rfl
        have hfz26_0 := blk_frozen BK115.out 0
        have hfz26_1 := blk_frozen BK115.out 1
        have hfz26_2 := blk_frozen BK115.out 2
        go_wp2
        go_meet
        case rel => exact ⟨_, ((a0_1 == 0)), (by first | rfl | (simp; done) | (simp [*]; done)), H', ⟨by have := HJ2.out; have := HJ8.out; first | omega | exact Nat.le_refl _⟩, ⟨bK⟩, ⟨bB⟩⟩
       ·replace c25 := Bool.eq_false_iff.mpr c25
        subst c25
        have H1 : (semigroupref04_shaped.j3 kj8 a1 (l0_2.length : Int) false a0_0 a0_1 l0_2) = some r := by rw [if_neg (show ¬ (false = true) by decide)] at H; exact H
        clear H
        have H := H1
        clear H1
        have H' := Aside0.mk H
        clear H
        go_wp2
        go_meet
        case rel => exact ⟨_, (false), (by first | rfl | (simp; done) | (simp [*]; done)), H', ⟨by have := HJ2.out; have := HJ8.out; first | omega | exact Nat.le_refl _⟩, ⟨bK⟩, ⟨bB⟩⟩
     case rest =>
      clear HC18
      try clear c1
      try clear c2
      try clear p2
      try clear c4
      try clear c6
      try clear c6b0
      try clear c12
      try clear c12b0
      try clear c12b1
      try clear c13
      try clear c13b0
      try clear c13b1
      try clear c14
      try clear c15
      try clear c15b0
      try clear c15b1
      try clear c16
      try clear c16b0
      try clear c16b1
      try clear c17
      try clear c20
      try clear c20b0
      try clear c20b1
      try clear c21
      try clear c22
      try clear c22b0
      try clear c25
      try clear hcz10_0
      try clear hcz10_1
      try clear hcz10_2
      try clear hcz19_0
      try clear hcz19_1
      try clear hcz19_2
      try clear hcz23_0
      try clear hcz23_1
      try clear hcz23_2
      try clear hcz24_0
      try clear hcz24_1
      try clear hcz24_2
      try clear hcz26_0
      try clear hcz26_1
      try clear hcz26_2
      try clear hcz5_0
      try clear hcz5_1
      try clear hcz5_2
      try clear hcz7_0
      try clear hcz7_1
      try clear hcz7_2
      try clear hcz8_0
      try clear hcz8_1
      try clear hcz8_2
      try clear hfz10_0
      try clear hfz10_1
      try clear hfz10_2
      try clear hfz19_0
      try clear hfz19_1
      try clear hfz19_2
      try clear hfz23_0
      try clear hfz23_1
      try clear hfz23_2
      try clear hfz24_0
      try clear hfz24_1
      try clear hfz24_2
      try clear hfz26_0
      try clear hfz26_1
      try clear hfz26_2
      try clear hfz5_0
      try clear hfz5_1
      try clear hfz5_2
      try clear hfz7_0
      try clear hfz7_1
      try clear hfz7_2
      try clear hfz8_0
      try clear hfz8_1
      try clear hfz8_2
      try clear p2
      obtain ⟨kq, x6_17, rfl, HA, HJ17, BK115, HB⟩ := hcut
      cases kq with
      | zero => exact absurd HA.out (by simp [semigroupref04_shaped.j3])
      | succ kj17 =>
       have H := HA.out
       clear HA
       simp only [semigroupref04_shaped.j3] at H
       have H' := Aside0.mk H
       clear H
       go_wp2
       go_loopg [6, 7] kj17 (fun kq v6 v7 w' => ∃ (x6_4 : Bool) (x7_4 : Int), v6 = .bool x6_4 ∧ v7 = .int .i64 x7_4 ∧ Aside0 (semigroupref04_shaped.l0 kq a1 (l0_2.length : Int) x6_4 x7_4 a0_0 a0_1 l0_2 = some r) ∧ Aside0 (kq ≤ kj17) ∧ Aside0 (w'.heap[gb115]? = some (.cells #[.int .i64 a0_0, .int .i64 a0_1, (.slice A0_2 l0_2.length c0_2)] 24 (0, 0))) ∧ Aside0 (Below w.heap.size w w'))
       case atStart => exact ⟨(x6_17), (0), (by first | rfl | (simp; done) | (simp [*]; done)), (by first | rfl | (simp; done) | (simp [*]; done)), H', ⟨Nat.le_refl _⟩, ⟨bK⟩, ⟨bB⟩⟩
       case round =>
        clear H'
        try clear c1
        try clear c2
        try clear p2
        try clear c4
        try clear c6
        try clear c6b0
        try clear c12
        try clear c12b0
        try clear c12b1
        try clear c13
        try clear c13b0
        try clear c13b1
        try clear c14
        try clear c15
        try clear c15b0
        try clear c15b1
        try clear c16
        try clear c16b0
        try clear c16b1
        try clear c17
        try clear c20
        try clear c20b0
        try clear c20b1
        try clear c21
        try clear c22
        try clear c22b0
        try clear c25
        try clear hcz10_0
        try clear hcz10_1
        try clear hcz10_2
        try clear hcz19_0
        try clear hcz19_1
        try clear hcz19_2
        try clear hcz23_0
        try clear hcz23_1
        try clear hcz23_2
        try clear hcz24_0
        try clear hcz24_1
        try clear hcz24_2
        try clear hcz26_0
        try clear hcz26_1
        try clear hcz26_2
        try clear hcz5_0
        try clear hcz5_1
        try clear hcz5_2
        try clear hcz7_0
        try clear hcz7_1
        try clear hcz7_2
        try clear hcz8_0
        try clear hcz8_1
        try clear hcz8_2
        try clear hfz10_0
        try clear hfz10_1
        try clear hfz10_2
        try clear hfz19_0
        try clear hfz19_1
        try clear hfz19_2
        try clear hfz23_0
        try clear hfz23_1
        try clear hfz23_2
        try clear hfz24_0
        try clear hfz24_1
        try clear hfz24_2
        try clear hfz26_0
        try clear hfz26_1
        try clear hfz26_2
        try clear hfz5_0
        try clear hfz5_1
        try clear hfz5_2
        try clear hfz7_0
        try clear hfz7_1
        try clear hfz7_2
        try clear hfz8_0
        try clear hfz8_1
        try clear hfz8_2
        try clear p2
        obtain ⟨x6_4, x7_4, rfl, rfl, HA, HK4, BK115, HB⟩ := hrel
        cases gk with
        | zero => exact absurd HA.out (by simp [semigroupref04_shaped.l0])
        | succ k4 =>
         have H := HA.out
         clear HA
         simp only [semigroupref04_shaped.l0] at H
         by_cases c27 : x7_4 < (l0_2.length : Int)
         ·rw [if_pos c27] at H
          have c27b0 : decide (x7_4 < (l0_2.length : Int)) = true := decide_eq_true c27
          clear c27
          by_cases c28 : x6_4 = true
          ·subst c28
           have H1 : (if 0 ≤ x7_4 then (if x7_4 < (l0_2.length : Int) then ((semigroupref04_shaped.f k4 ((rd_T24 l0_2 x7_4).f0) ((rd_T24 l0_2 x7_4).f1) ((rd_T24 l0_2 x7_4).f2) a1).bind fun t117 => (semigroupref04_shaped.l0 k4 a1 (l0_2.length : Int) t117 (wrap64 (x7_4 + 1)) a0_0 a0_1 l0_2)) else (none)) else (none)) = some r := by rw [if_pos rfl] at H; exact H
           clear H
           have H := H1
           clear H1
           by_cases c29 : 0 ≤ x7_4
           ·rw [if_pos c29] at H
            have c29b0 : decide (0 ≤ x7_4) = true := decide_eq_true c29
            clear c29
            by_cases c30 : x7_4 < (l0_2.length : Int)
            ·rw [if_pos c30] at H
             have c30b0 : decide (x7_4 < (l0_2.length : Int)) = true := decide_eq_true c30
             clear c30
             replace H := Option.bind_eq_some_iff.mp H
             obtain ⟨t117, A310, H⟩ := H
             replace H : (semigroupref04_shaped.l0 k4 a1 (l0_2.length : Int) t117 (wrap64 (x7_4 + 1)) a0_0 a0_1 l0_2) = some r := H
             have A31 := Aside0.mk A310
             clear A310
             have H' := Aside0.mk H
             clear H
             have hcz32_0 : wr.cell? ⟨gb115, 0, none⟩ = some (.int .i64 a0_0) := (blk_cell BK115.out 0).trans rfl
             have hcz32_1 : wr.cell? ⟨gb115, 1, none⟩ = some (.int .i64 a0_1) := (blk_cell BK115.out 1).trans rfl
             have hcz32_2 : wr.cell? ⟨gb115, 2, none⟩ = some (.slice A0_2 l0_2.length c0_2) := (blk_cell BK115.out 2).trans rfl
             have hfz32_0 := blk_frozen BK115.out 0
             have hfz32_1 := blk_frozen BK115.out 1
             have hfz32_2 := blk_frozen BK115.out 2
             have p116 : 0 ≤ (x7_4 : Int) := of_decide_eq_true (by first | (with_reducible assumption) | assumption)
             have q116 : x7_4 < (l0_2.length : Int) := of_decide_eq_true (by first | (with_reducible assumption) | assumption)
             obtain ⟨ad116, A116_2, c116_2, e116, hx116_0, hx116_1, hx116_2, hl116_2, hi116_2⟩ := at_T24 HR0_2.out x7_4 p116 q116
             cases e116
             replace hx116_0 := (HB.out.cell (World.block_lt_of_cell? w _ hx116_0)).trans hx116_0
             replace hx116_1 := (HB.out.cell (World.block_lt_of_cell? w _ hx116_1)).trans hx116_1
             replace hx116_2 := (HB.out.cell (World.block_lt_of_cell? w _ hx116_2)).trans hx116_2
             have HR116_2 := Aside0.mk hi116_2
             have HC116_2 := Aside0.mk hl116_2
             clear hi116_2 hl116_2
             replace p116 := eq_true p116
             replace q116 := eq_true q116
             go_wp2_with (first | ((with_reducible refine gate_callee (f := 45) rfl ?_); refine goesL_ (some 72) rfl rfl Try.func45 (by kernel_rfl) rfl #[.agg #[.int .i64 ((rd_T24 l0_2 x7_4).f0), .int .i64 ((rd_T24 l0_2 x7_4).f1), .slice A116_2 ((rd_T24 l0_2 x7_4).f2).length c116_2], .int .i64 a1] rfl (by (try simp only [List.map_toArray, List.map_cons, List.map_nil]); first | done | rfl | (simp only [List.length_drop, List.length_take]; rfl) | (simp only [Int.ofNat_lt, Int.ofNat_le]; rfl)) ?_; (with_reducible refine (ih k4 (by have := HJ2.out; have := HJ8.out; have := HJ17.out; have := HK4.out; omega) ((rd_T24 l0_2 x7_4).f0) ((rd_T24 l0_2 x7_4).f1) _ _ ((rd_T24 l0_2 x7_4).f2) a1 t117 _ ?side1 ?side2 A31.out).mono ?_); (case side1 => repeat (first | exact (Kd.C_below HR116_2.out HB.out) | (with_reducible refine Kd.C_alloc ?_ _) | (with_reducible refine Kd.C_drewN ?_ _) | (with_reducible refine Kd.C_drew ?_))); (case side2 => exact HC116_2.out); rintro e w33 ⟨rfl, hb⟩; refine ⟨_, rfl, ?_⟩; have n0_ := Aside0.mk (blk_below (g := gb115) (o := .cells #[.int .i64 a0_0, .int .i64 a0_1, .slice (some ad116) l0_2.length c0_2] 24 (0, 0)) (bK) hb); have n1_ := Aside0.mk (below_step (bB) hb); clear BK115; clear HB; have BK115 := n0_; have HB := n1_; clear n0_ n1_; (try clear hb); (try clear hb2); (try clear hk); (try clear hi)))
             (first | go_roundg k4 | ((simp only [add_plain] at *); go_roundg k4))
             case measure => have := HJ2.out; have := HJ8.out; have := HJ17.out; have := HK4.out; omega
             case rel => exact ⟨(t117), (wrap64 (x7_4 + 1)), (by first | rfl | (simp; done) | (simp [*]; done)), (by first | rfl | (simp; done) | (simp [*]; done)), H', ⟨by have := HJ2.out; have := HJ8.out; have := HJ17.out; have := HK4.out; omega⟩, ⟨bK⟩, ⟨bB⟩⟩
            ·rw [if_neg c30] at H
             exact absurd H (by simp)
           ·rw [if_neg c29] at H
            exact absurd H (by simp)
          ·replace c28 := Bool.eq_false_iff.mpr c28
           subst c28
           have H1 : (some false) = some r := by rw [if_neg (show ¬ (false = true) by decide)] at H; exact H
           clear H
           have H := H1
           clear H1
           obtain rfl := Option.some.inj H
           go_wp2
           go_ret
           exact ⟨by first | rfl | (simp [errW_none, errW_some] <;> rfl) | (simp [*, errW_none, errW_some] <;> rfl), bB⟩
         ·rw [if_neg c27] at H
          have c27b0 : decide (x7_4 < (l0_2.length : Int)) = false := decide_eq_false c27
          clear c27
          obtain rfl := Option.some.inj H
          go_wp2
          go_ret
          exact ⟨by first | rfl | (simp [errW_none, errW_some] <;> rfl) | (simp [*, errW_none, errW_some] <;> rfl), bB⟩
end Go.Proofs.Ytjofkebiacaciaa.PAll
end
section
namespace Go.Proofs.Ytjofkebiacaciaa.PAll
open Go.RowKit Go.Proofs.YtjofkebiacaciaaW.PrintWords Go.Proofs.YtjofkebiacaciaaW.PrintLast Go.Proofs.YtjofkebiacaciaaW.PrintMore
attribute [local go_sem] max2_int min2_int max_two min_two max_three min_three max_four min_four
set_option linter.unusedVariables false
set_option linter.unusedSimpArgs false
def semigroupref04_Validate.f (k : Nat) (a0_0 : Int) (a0_1 : Int) (l0_2 : List (S24)) (a1 : Int) : Option (Int) := (semigroupref01_MayLetters.f a1).bind fun t119 => (if t119 = true then ((semigroupref04_Within.f k a0_0 a0_1 l0_2).bind fun t120 => (if t120 = true then ((semigroupref04_shaped.f k a0_0 a0_1 l0_2 a1).bind fun t121 => (if t121 = true then (some 0) else (some 4))) else (some 3))) else (some 1))
theorem semigroupref04_Validate.mono : ∀ a0 a1 a2 a3 k, LeO (semigroupref04_Validate.f k a0 a1 a2 a3) (semigroupref04_Validate.f (k + 1) a0 a1 a2 a3) := by
 intro a0 a1 a2 a3 k
 unfold semigroupref04_Validate.f
 repeat' first
   | (with_reducible exact semigroupref04_Within.mono _ _ _ _)
   | (with_reducible exact semigroupref04_shaped.mono _ _ _ _ _)
   | (with_reducible exact LeO.refl _)
   | (with_reducible exact LeO.none _)
   | (with_reducible refine LeO.ite ?_ ?_)
   | (with_reducible refine LeO.bind ?_ (fun _ => ?_))
   | exact semigroupref04_Within.mono _ _ _ _
   | exact semigroupref04_shaped.mono _ _ _ _ _
   | exact LeO.none _
   | refine LeO.ite ?_ ?_
   | refine LeO.bind ?_ (fun _ => ?_)
set_option maxHeartbeats 8000000 in
set_option maxRecDepth 100000 in
theorem semigroupref04_Validate.calls (k : Nat) (a0_0 : Int) (a0_1 : Int) (A0_2 : Option Addr) (c0_2 : Nat) (l0_2 : List (S24)) (a1 : Int) (r : Int) (w : World) (hr0_2 : Kd.C k24 w A0_2 l0_2.length l0_2) (hc0_2 : l0_2.length ≤ c0_2) (h : semigroupref04_Validate.f k a0_0 a0_1 l0_2 a1 = some r) :
  Calls Try.prog 16 #[.agg #[.int .i64 a0_0, .int .i64 a0_1, .slice A0_2 l0_2.length c0_2], .int .i64 a1] w fun e w' => e = .returned (.int .i64 r) ∧ Below w.heap.size w w' := by
 have hu24 := Try.underlying24
 have HR0_2 := Aside0.mk hr0_2
 have HC0_2 := Aside0.mk hc0_2
 clear hr0_2 hc0_2
 have HB := Aside0.mk (Below.refl w.heap.size w)
 have H : ((semigroupref01_MayLetters.f a1).bind fun t119 => (if t119 = true then ((semigroupref04_Within.f k a0_0 a0_1 l0_2).bind fun t120 => (if t120 = true then ((semigroupref04_shaped.f k a0_0 a0_1 l0_2 a1).bind fun t121 => (if t121 = true then (some 0) else (some 4))) else (some 3))) else (some 1))) = some r := h
 clear h
 replace H := Option.bind_eq_some_iff.mp H
 obtain ⟨t119, A30, H⟩ := H
 replace H : (if t119 = true then ((semigroupref04_Within.f k a0_0 a0_1 l0_2).bind fun t120 => (if t120 = true then ((semigroupref04_shaped.f k a0_0 a0_1 l0_2 a1).bind fun t121 => (if t121 = true then (some 0) else (some 4))) else (some 3))) else (some 1)) = some r := H
 have A3 := Aside0.mk A30
 clear A30
 by_cases c4 : t119 = true
 ·subst c4
  have H1 : ((semigroupref04_Within.f k a0_0 a0_1 l0_2).bind fun t120 => (if t120 = true then ((semigroupref04_shaped.f k a0_0 a0_1 l0_2 a1).bind fun t121 => (if t121 = true then (some 0) else (some 4))) else (some 3))) = some r := by rw [if_pos rfl] at H; exact H
  clear H
  have H := H1
  clear H1
  replace H := Option.bind_eq_some_iff.mp H
  obtain ⟨t120, A50, H⟩ := H
  replace H : (if t120 = true then ((semigroupref04_shaped.f k a0_0 a0_1 l0_2 a1).bind fun t121 => (if t121 = true then (some 0) else (some 4))) else (some 3)) = some r := H
  have A5 := Aside0.mk A50
  clear A50
  by_cases c6 : t120 = true
  ·subst c6
   have H1 : ((semigroupref04_shaped.f k a0_0 a0_1 l0_2 a1).bind fun t121 => (if t121 = true then (some 0) else (some 4))) = some r := by rw [if_pos rfl] at H; exact H
   clear H
   have H := H1
   clear H1
   replace H := Option.bind_eq_some_iff.mp H
   obtain ⟨t121, A70, H⟩ := H
   replace H : (if t121 = true then (some 0) else (some 4)) = some r := H
   have A7 := Aside0.mk A70
   clear A70
   by_cases c8 : t121 = true
   ·subst c8
    have H1 : (some 0) = some r := by rw [if_pos rfl] at H; exact H
    clear H
    have H := H1
    clear H1
    obtain rfl := Option.some.inj H
    go_enter Try.func16, Try.ntmps16
    go_wp2_with (first | ((with_reducible refine gate_dst (N := 2) rfl ?_); refine box_event ?hg (N := 2) ?hd (cs := #[.int .i64 a0_0, .int .i64 a0_1, .slice A0_2 l0_2.length c0_2]) (t := 24) ?hr ?_; (case hd => rfl); (case hg => rfl); (case hr => first | (go_simp; done) | (go_simp; rfl)); intro gb118 hg w9 hbox hb; have n0_ := Aside0.mk (below_step (bB) hb); have n1_ := Aside0.mk (hbox); have n2_ := Aside0.mk ((by rw [hg]; exact (below_size (bB)) : w.heap.size ≤ gb118)); have n3_ := Aside0.mk ((by rw [hg]; exact (below_size (bB)) : w.heap.size ≤ gb118)); clear HB; have HB := n0_; have BK118 := n1_; have GW118 := n2_; have GE118 := n3_; clear n0_ n1_ n2_ n3_; clear hb hbox hg) | ((with_reducible refine gate_callee (f := 43) rfl ?_); refine goesL_ (some 7) rfl rfl Try.func43 (by kernel_rfl) rfl #[.int .i64 a1] rfl (by (try simp only [List.map_toArray, List.map_cons, List.map_nil]); first | done | rfl | (simp only [List.length_drop, List.length_take]; rfl) | (simp only [Int.ofNat_lt, Int.ofNat_le]; rfl)) ?_; (with_reducible refine (semigroupref01_MayLetters.calls a1 true _ A3.out).mono ?_); rintro e w' ⟨rfl, ⟨nd, rfl⟩⟩; refine ⟨_, rfl, ?_⟩; have hcz10_0 : w9.cell? ⟨gb118, 0, none⟩ = some (.int .i64 a0_0) := (blk_cell BK118.out 0).trans rfl; have hcz10_1 : w9.cell? ⟨gb118, 1, none⟩ = some (.int .i64 a0_1) := (blk_cell BK118.out 1).trans rfl; have hcz10_2 : w9.cell? ⟨gb118, 2, none⟩ = some (.slice A0_2 l0_2.length c0_2) := (blk_cell BK118.out 2).trans rfl; have hfz10_0 := blk_frozen BK118.out 0; have hfz10_1 := blk_frozen BK118.out 1; have hfz10_2 := blk_frozen BK118.out 2) | ((with_reducible refine gate_callee (f := 44) rfl ?_); refine goesL_ (some 11) rfl rfl Try.func44 (by kernel_rfl) rfl #[.agg #[.int .i64 a0_0, .int .i64 a0_1, .slice A0_2 l0_2.length c0_2]] rfl (by (try simp only [List.map_toArray, List.map_cons, List.map_nil]); first | done | rfl | (simp only [List.length_drop, List.length_take]; rfl) | (simp only [Int.ofNat_lt, Int.ofNat_le]; rfl)) ?_; (with_reducible refine (semigroupref04_Within.calls k a0_0 a0_1 _ _ l0_2 true _ ?side1 ?side2 A5.out).mono ?_); (case side1 => repeat (first | exact (Kd.C_below HR0_2.out (bB)) | (with_reducible refine Kd.C_alloc ?_ _) | (with_reducible refine Kd.C_drewN ?_ _) | (with_reducible refine Kd.C_drew ?_))); (case side2 => exact HC0_2.out); rintro e w11 ⟨rfl, hb⟩; refine ⟨_, rfl, ?_⟩; have n0_ := Aside0.mk (blk_below (g := gb118) (o := .cells #[.int .i64 a0_0, .int .i64 a0_1, .slice A0_2 l0_2.length c0_2] 24 (0, 0)) (bK) hb); have n1_ := Aside0.mk (below_step (bB) hb); clear BK118; clear HB; have BK118 := n0_; have HB := n1_; clear n0_ n1_; (try clear hb); (try clear hb2); (try clear hk); (try clear hi); have hcz12_0 : w11.cell? ⟨gb118, 0, none⟩ = some (.int .i64 a0_0) := (blk_cell BK118.out 0).trans rfl; have hcz12_1 : w11.cell? ⟨gb118, 1, none⟩ = some (.int .i64 a0_1) := (blk_cell BK118.out 1).trans rfl; have hcz12_2 : w11.cell? ⟨gb118, 2, none⟩ = some (.slice A0_2 l0_2.length c0_2) := (blk_cell BK118.out 2).trans rfl; have hfz12_0 := blk_frozen BK118.out 0; have hfz12_1 := blk_frozen BK118.out 1; have hfz12_2 := blk_frozen BK118.out 2) | ((with_reducible refine gate_callee (f := 45) rfl ?_); refine goesL_ (some 16) rfl rfl Try.func45 (by kernel_rfl) rfl #[.agg #[.int .i64 a0_0, .int .i64 a0_1, .slice A0_2 l0_2.length c0_2], .int .i64 a1] rfl (by (try simp only [List.map_toArray, List.map_cons, List.map_nil]); first | done | rfl | (simp only [List.length_drop, List.length_take]; rfl) | (simp only [Int.ofNat_lt, Int.ofNat_le]; rfl)) ?_; (with_reducible refine (semigroupref04_shaped.calls k a0_0 a0_1 _ _ l0_2 a1 true _ ?side1 ?side2 A7.out).mono ?_); (case side1 => repeat (first | exact (Kd.C_below HR0_2.out HB.out) | (with_reducible refine Kd.C_alloc ?_ _) | (with_reducible refine Kd.C_drewN ?_ _) | (with_reducible refine Kd.C_drew ?_))); (case side2 => exact HC0_2.out); rintro e w13 ⟨rfl, hb⟩; refine ⟨_, rfl, ?_⟩; have n0_ := Aside0.mk (blk_below (g := gb118) (o := .cells #[.int .i64 a0_0, .int .i64 a0_1, .slice A0_2 l0_2.length c0_2] 24 (0, 0)) (bK) hb); have n1_ := Aside0.mk (below_step (bB) hb); clear BK118; clear HB; have BK118 := n0_; have HB := n1_; clear n0_ n1_; (try clear hb); (try clear hb2); (try clear hk); (try clear hi)))
    go_ret
    exact ⟨by first | rfl | (simp [errW_none, errW_some] <;> rfl) | (simp [*, errW_none, errW_some] <;> rfl), bB⟩
   ·replace c8 := Bool.eq_false_iff.mpr c8
    subst c8
    have H1 : (some 4) = some r := by rw [if_neg (show ¬ (false = true) by decide)] at H; exact H
    clear H
    have H := H1
    clear H1
    obtain rfl := Option.some.inj H
    go_enter Try.func16, Try.ntmps16
    go_wp2_with (first | ((with_reducible refine gate_dst (N := 2) rfl ?_); refine box_event ?hg (N := 2) ?hd (cs := #[.int .i64 a0_0, .int .i64 a0_1, .slice A0_2 l0_2.length c0_2]) (t := 24) ?hr ?_; (case hd => rfl); (case hg => rfl); (case hr => first | (go_simp; done) | (go_simp; rfl)); intro gb118 hg w14 hbox hb; have n0_ := Aside0.mk (below_step (bB) hb); have n1_ := Aside0.mk (hbox); have n2_ := Aside0.mk ((by rw [hg]; exact (below_size (bB)) : w.heap.size ≤ gb118)); have n3_ := Aside0.mk ((by rw [hg]; exact (below_size (bB)) : w.heap.size ≤ gb118)); clear HB; have HB := n0_; have BK118 := n1_; have GW118 := n2_; have GE118 := n3_; clear n0_ n1_ n2_ n3_; clear hb hbox hg) | ((with_reducible refine gate_callee (f := 43) rfl ?_); refine goesL_ (some 7) rfl rfl Try.func43 (by kernel_rfl) rfl #[.int .i64 a1] rfl (by (try simp only [List.map_toArray, List.map_cons, List.map_nil]); first | done | rfl | (simp only [List.length_drop, List.length_take]; rfl) | (simp only [Int.ofNat_lt, Int.ofNat_le]; rfl)) ?_; (with_reducible refine (semigroupref01_MayLetters.calls a1 true _ A3.out).mono ?_); rintro e w' ⟨rfl, ⟨nd, rfl⟩⟩; refine ⟨_, rfl, ?_⟩; have hcz15_0 : w14.cell? ⟨gb118, 0, none⟩ = some (.int .i64 a0_0) := (blk_cell BK118.out 0).trans rfl; have hcz15_1 : w14.cell? ⟨gb118, 1, none⟩ = some (.int .i64 a0_1) := (blk_cell BK118.out 1).trans rfl; have hcz15_2 : w14.cell? ⟨gb118, 2, none⟩ = some (.slice A0_2 l0_2.length c0_2) := (blk_cell BK118.out 2).trans rfl; have hfz15_0 := blk_frozen BK118.out 0; have hfz15_1 := blk_frozen BK118.out 1; have hfz15_2 := blk_frozen BK118.out 2) | ((with_reducible refine gate_callee (f := 44) rfl ?_); refine goesL_ (some 11) rfl rfl Try.func44 (by kernel_rfl) rfl #[.agg #[.int .i64 a0_0, .int .i64 a0_1, .slice A0_2 l0_2.length c0_2]] rfl (by (try simp only [List.map_toArray, List.map_cons, List.map_nil]); first | done | rfl | (simp only [List.length_drop, List.length_take]; rfl) | (simp only [Int.ofNat_lt, Int.ofNat_le]; rfl)) ?_; (with_reducible refine (semigroupref04_Within.calls k a0_0 a0_1 _ _ l0_2 true _ ?side1 ?side2 A5.out).mono ?_); (case side1 => repeat (first | exact (Kd.C_below HR0_2.out (bB)) | (with_reducible refine Kd.C_alloc ?_ _) | (with_reducible refine Kd.C_drewN ?_ _) | (with_reducible refine Kd.C_drew ?_))); (case side2 => exact HC0_2.out); rintro e w16 ⟨rfl, hb⟩; refine ⟨_, rfl, ?_⟩; have n0_ := Aside0.mk (blk_below (g := gb118) (o := .cells #[.int .i64 a0_0, .int .i64 a0_1, .slice A0_2 l0_2.length c0_2] 24 (0, 0)) (bK) hb); have n1_ := Aside0.mk (below_step (bB) hb); clear BK118; clear HB; have BK118 := n0_; have HB := n1_; clear n0_ n1_; (try clear hb); (try clear hb2); (try clear hk); (try clear hi); have hcz17_0 : w16.cell? ⟨gb118, 0, none⟩ = some (.int .i64 a0_0) := (blk_cell BK118.out 0).trans rfl; have hcz17_1 : w16.cell? ⟨gb118, 1, none⟩ = some (.int .i64 a0_1) := (blk_cell BK118.out 1).trans rfl; have hcz17_2 : w16.cell? ⟨gb118, 2, none⟩ = some (.slice A0_2 l0_2.length c0_2) := (blk_cell BK118.out 2).trans rfl; have hfz17_0 := blk_frozen BK118.out 0; have hfz17_1 := blk_frozen BK118.out 1; have hfz17_2 := blk_frozen BK118.out 2) | ((with_reducible refine gate_callee (f := 45) rfl ?_); refine goesL_ (some 16) rfl rfl Try.func45 (by kernel_rfl) rfl #[.agg #[.int .i64 a0_0, .int .i64 a0_1, .slice A0_2 l0_2.length c0_2], .int .i64 a1] rfl (by (try simp only [List.map_toArray, List.map_cons, List.map_nil]); first | done | rfl | (simp only [List.length_drop, List.length_take]; rfl) | (simp only [Int.ofNat_lt, Int.ofNat_le]; rfl)) ?_; (with_reducible refine (semigroupref04_shaped.calls k a0_0 a0_1 _ _ l0_2 a1 false _ ?side1 ?side2 A7.out).mono ?_); (case side1 => repeat (first | exact (Kd.C_below HR0_2.out HB.out) | (with_reducible refine Kd.C_alloc ?_ _) | (with_reducible refine Kd.C_drewN ?_ _) | (with_reducible refine Kd.C_drew ?_))); (case side2 => exact HC0_2.out); rintro e w18 ⟨rfl, hb⟩; refine ⟨_, rfl, ?_⟩; have n0_ := Aside0.mk (blk_below (g := gb118) (o := .cells #[.int .i64 a0_0, .int .i64 a0_1, .slice A0_2 l0_2.length c0_2] 24 (0, 0)) (bK) hb); have n1_ := Aside0.mk (below_step (bB) hb); clear BK118; clear HB; have BK118 := n0_; have HB := n1_; clear n0_ n1_; (try clear hb); (try clear hb2); (try clear hk); (try clear hi)))
    go_ret
    exact ⟨by first | rfl | (simp [errW_none, errW_some] <;> rfl) | (simp [*, errW_none, errW_some] <;> rfl), bB⟩
  ·replace c6 := Bool.eq_false_iff.mpr c6
   subst c6
   have H1 : (some 3) = some r := by rw [if_neg (show ¬ (false = true) by decide)] at H; exact H
   clear H
   have H := H1
   clear H1
   obtain rfl := Option.some.inj H
   go_enter Try.func16, Try.ntmps16
   go_wp2_with (first | ((with_reducible refine gate_dst (N := 2) rfl ?_); refine box_event ?hg (N := 2) ?hd (cs := #[.int .i64 a0_0, .int .i64 a0_1, .slice A0_2 l0_2.length c0_2]) (t := 24) ?hr ?_; (case hd => rfl); (case hg => rfl); (case hr => first | (go_simp; done) | (go_simp; rfl)); intro gb118 hg w19 hbox hb; have n0_ := Aside0.mk (below_step (bB) hb); have n1_ := Aside0.mk (hbox); have n2_ := Aside0.mk ((by rw [hg]; exact (below_size (bB)) : w.heap.size ≤ gb118)); have n3_ := Aside0.mk ((by rw [hg]; exact (below_size (bB)) : w.heap.size ≤ gb118)); clear HB; have HB := n0_; have BK118 := n1_; have GW118 := n2_; have GE118 := n3_; clear n0_ n1_ n2_ n3_; clear hb hbox hg) | ((with_reducible refine gate_callee (f := 43) rfl ?_); refine goesL_ (some 7) rfl rfl Try.func43 (by kernel_rfl) rfl #[.int .i64 a1] rfl (by (try simp only [List.map_toArray, List.map_cons, List.map_nil]); first | done | rfl | (simp only [List.length_drop, List.length_take]; rfl) | (simp only [Int.ofNat_lt, Int.ofNat_le]; rfl)) ?_; (with_reducible refine (semigroupref01_MayLetters.calls a1 true _ A3.out).mono ?_); rintro e w' ⟨rfl, ⟨nd, rfl⟩⟩; refine ⟨_, rfl, ?_⟩; have hcz20_0 : w19.cell? ⟨gb118, 0, none⟩ = some (.int .i64 a0_0) := (blk_cell BK118.out 0).trans rfl; have hcz20_1 : w19.cell? ⟨gb118, 1, none⟩ = some (.int .i64 a0_1) := (blk_cell BK118.out 1).trans rfl; have hcz20_2 : w19.cell? ⟨gb118, 2, none⟩ = some (.slice A0_2 l0_2.length c0_2) := (blk_cell BK118.out 2).trans rfl; have hfz20_0 := blk_frozen BK118.out 0; have hfz20_1 := blk_frozen BK118.out 1; have hfz20_2 := blk_frozen BK118.out 2) | ((with_reducible refine gate_callee (f := 44) rfl ?_); refine goesL_ (some 11) rfl rfl Try.func44 (by kernel_rfl) rfl #[.agg #[.int .i64 a0_0, .int .i64 a0_1, .slice A0_2 l0_2.length c0_2]] rfl (by (try simp only [List.map_toArray, List.map_cons, List.map_nil]); first | done | rfl | (simp only [List.length_drop, List.length_take]; rfl) | (simp only [Int.ofNat_lt, Int.ofNat_le]; rfl)) ?_; (with_reducible refine (semigroupref04_Within.calls k a0_0 a0_1 _ _ l0_2 false _ ?side1 ?side2 A5.out).mono ?_); (case side1 => repeat (first | exact (Kd.C_below HR0_2.out (bB)) | (with_reducible refine Kd.C_alloc ?_ _) | (with_reducible refine Kd.C_drewN ?_ _) | (with_reducible refine Kd.C_drew ?_))); (case side2 => exact HC0_2.out); rintro e w21 ⟨rfl, hb⟩; refine ⟨_, rfl, ?_⟩; have n0_ := Aside0.mk (blk_below (g := gb118) (o := .cells #[.int .i64 a0_0, .int .i64 a0_1, .slice A0_2 l0_2.length c0_2] 24 (0, 0)) (bK) hb); have n1_ := Aside0.mk (below_step (bB) hb); clear BK118; clear HB; have BK118 := n0_; have HB := n1_; clear n0_ n1_; (try clear hb); (try clear hb2); (try clear hk); (try clear hi)))
   go_ret
   exact ⟨by first | rfl | (simp [errW_none, errW_some] <;> rfl) | (simp [*, errW_none, errW_some] <;> rfl), bB⟩
 ·replace c4 := Bool.eq_false_iff.mpr c4
  subst c4
  have H1 : (some 1) = some r := by rw [if_neg (show ¬ (false = true) by decide)] at H; exact H
  clear H
  have H := H1
  clear H1
  obtain rfl := Option.some.inj H
  go_enter Try.func16, Try.ntmps16
  go_wp2_with (first | ((with_reducible refine gate_dst (N := 2) rfl ?_); refine box_event ?hg (N := 2) ?hd (cs := #[.int .i64 a0_0, .int .i64 a0_1, .slice A0_2 l0_2.length c0_2]) (t := 24) ?hr ?_; (case hd => rfl); (case hg => rfl); (case hr => first | (go_simp; done) | (go_simp; rfl)); intro gb118 hg w22 hbox hb; have n0_ := Aside0.mk (below_step (bB) hb); have n1_ := Aside0.mk (hbox); have n2_ := Aside0.mk ((by rw [hg]; exact (below_size (bB)) : w.heap.size ≤ gb118)); have n3_ := Aside0.mk ((by rw [hg]; exact (below_size (bB)) : w.heap.size ≤ gb118)); clear HB; have HB := n0_; have BK118 := n1_; have GW118 := n2_; have GE118 := n3_; clear n0_ n1_ n2_ n3_; clear hb hbox hg) | ((with_reducible refine gate_callee (f := 43) rfl ?_); refine goesL_ (some 7) rfl rfl Try.func43 (by kernel_rfl) rfl #[.int .i64 a1] rfl (by (try simp only [List.map_toArray, List.map_cons, List.map_nil]); first | done | rfl | (simp only [List.length_drop, List.length_take]; rfl) | (simp only [Int.ofNat_lt, Int.ofNat_le]; rfl)) ?_; (with_reducible refine (semigroupref01_MayLetters.calls a1 false _ A3.out).mono ?_); rintro e w' ⟨rfl, ⟨nd, rfl⟩⟩; refine ⟨_, rfl, ?_⟩))
  go_ret
  exact ⟨by first | rfl | (simp [errW_none, errW_some] <;> rfl) | (simp [*, errW_none, errW_some] <;> rfl), bB⟩
end Go.Proofs.Ytjofkebiacaciaa.PAll
end
section
namespace Go.Proofs.Ytjofkebiacaciaa.PAll
open Go.RowKit Go.Proofs.YtjofkebiacaciaaW.PrintWords Go.Proofs.YtjofkebiacaciaaW.PrintLast Go.Proofs.YtjofkebiacaciaaW.PrintMore
attribute [local go_sem] max2_int min2_int max_two min_two max_three min_three max_four min_four
set_option linter.unusedVariables false
set_option linter.unusedSimpArgs false
def semigrouplaw04_ExprValidates.f (k : Nat) (a0_0 : Int) (a0_1 : Int) (l0_2 : List (S24)) (a1 : Int) : Option (Bool) := (expr_Validate.f k a0_0 a0_1 l0_2 a1).bind fun t305 => ((semigroupref04_Validate.f k a0_0 a0_1 l0_2 a1).bind fun t306 => (if t305 = t306 then ((semigrouplaw04_awake.f k).bind fun t307 => (some t307)) else (some false)))
theorem semigrouplaw04_ExprValidates.mono : ∀ a0 a1 a2 a3 k, LeO (semigrouplaw04_ExprValidates.f k a0 a1 a2 a3) (semigrouplaw04_ExprValidates.f (k + 1) a0 a1 a2 a3) := by
 intro a0 a1 a2 a3 k
 unfold semigrouplaw04_ExprValidates.f
 repeat' first
   | (with_reducible exact expr_Validate.mono _ _ _ _ _)
   | (with_reducible exact semigrouplaw04_awake.mono _)
   | (with_reducible exact semigroupref04_Validate.mono _ _ _ _ _)
   | (with_reducible exact LeO.refl _)
   | (with_reducible exact LeO.none _)
   | (with_reducible refine LeO.ite ?_ ?_)
   | (with_reducible refine LeO.bind ?_ (fun _ => ?_))
   | exact expr_Validate.mono _ _ _ _ _
   | exact semigrouplaw04_awake.mono _
   | exact semigroupref04_Validate.mono _ _ _ _ _
   | exact LeO.none _
   | refine LeO.ite ?_ ?_
   | refine LeO.bind ?_ (fun _ => ?_)
def semigrouplaw04_ExprValidates.T1 : Bool × List (List Nat × List Nat) := (true, [([], []), ([], []), ([0, 1], [0, 1]), ([], []), ([], []), ([3, 4, 2], [3, 4]), ([2, 5], [2, 5]), ([6, 5], [6]), ([7, 7], [7]), ([7, 8], [7, 8]), ([9, 8, 0, 1, 2, 3, 4, 5, 6, 7, 8, 9], [9])])
def semigrouplaw04_ExprValidates.B1 : List Nat := [0, 0, 3, 0, 0, 31, 63, 127, 255, 511, 1023]
theorem semigrouplaw04_ExprValidates.tab1 : rtab .any (opsOf Try.f3 1) = semigrouplaw04_ExprValidates.T1 := by kernel_rfl
theorem semigrouplaw04_ExprValidates.bits1 : waitsOk semigrouplaw04_ExprValidates.T1.2 semigrouplaw04_ExprValidates.B1 = true := by kernel_rfl
set_option maxHeartbeats 8000000 in
set_option maxRecDepth 100000 in
theorem semigrouplaw04_ExprValidates.calls (k : Nat) (a0_0 : Int) (a0_1 : Int) (A0_2 : Option Addr) (c0_2 : Nat) (l0_2 : List (S24)) (a1 : Int) (r : Bool) (w : World) (hr0_2 : Kd.C k24 w A0_2 l0_2.length l0_2) (hc0_2 : l0_2.length ≤ c0_2) (h : semigrouplaw04_ExprValidates.f k a0_0 a0_1 l0_2 a1 = some r) :
  Calls Try.prog 3 #[.agg #[.int .i64 a0_0, .int .i64 a0_1, .slice A0_2 l0_2.length c0_2], .int .i64 a1] w fun e w' => e = .returned (.bool r) ∧ Below w.heap.size w w' := by
 have hu24 := Try.underlying24
 have HR0_2 := Aside0.mk hr0_2
 have HC0_2 := Aside0.mk hc0_2
 clear hr0_2 hc0_2
 have HB := Aside0.mk (Below.refl w.heap.size w)
 have H : ((expr_Validate.f k a0_0 a0_1 l0_2 a1).bind fun t305 => ((semigroupref04_Validate.f k a0_0 a0_1 l0_2 a1).bind fun t306 => (if t305 = t306 then ((semigrouplaw04_awake.f k).bind fun t307 => (some t307)) else (some false)))) = some r := h
 clear h
 replace H := Option.bind_eq_some_iff.mp H
 obtain ⟨t305, A30, H⟩ := H
 replace H : ((semigroupref04_Validate.f k a0_0 a0_1 l0_2 a1).bind fun t306 => (if t305 = t306 then ((semigrouplaw04_awake.f k).bind fun t307 => (some t307)) else (some false))) = some r := H
 have A3 := Aside0.mk A30
 clear A30
 replace H := Option.bind_eq_some_iff.mp H
 obtain ⟨t306, A40, H⟩ := H
 replace H : (if t305 = t306 then ((semigrouplaw04_awake.f k).bind fun t307 => (some t307)) else (some false)) = some r := H
 have A4 := Aside0.mk A40
 clear A40
 by_cases c5 : t305 = t306
 ·rw [if_pos c5] at H
  have c5b0 : (t305 == t306) = true := beq_iff_eq.mpr c5
  have c5b1 : (t305 != t306) = false := bne_eq_false_iff_eq.mpr c5
  clear c5
  replace H := Option.bind_eq_some_iff.mp H
  obtain ⟨t307, A60, H⟩ := H
  replace H : (some t307) = some r := H
  have A6 := Aside0.mk A60
  clear A60
  obtain rfl := Option.some.inj H
  go_enter Try.func3, Try.ntmps3
  try go_wp2_with (first | ((with_reducible refine gate_dst (N := 2) rfl ?_); refine box_event ?hg (N := 2) ?hd (cs := #[.int .i64 a0_0, .int .i64 a0_1, .slice A0_2 l0_2.length c0_2]) (t := 24) ?hr ?_; (case hd => rfl); (case hg => rfl); (case hr => first | (go_simp; done) | (go_simp; rfl)); intro gb304 hg w7 hbox hb; have n0_ := Aside0.mk (below_step (bB) hb); have n1_ := Aside0.mk (hbox); have n2_ := Aside0.mk ((by rw [hg]; exact (below_size (bB)) : w.heap.size ≤ gb304)); have n3_ := Aside0.mk ((by rw [hg]; exact (below_size (bB)) : w.heap.size ≤ gb304)); clear HB; have HB := n0_; have BK304 := n1_; have GW304 := n2_; have GE304 := n3_; clear n0_ n1_ n2_ n3_; clear hb hbox hg))
  have n0_ := Aside0.mk (blk_drew BK304.out)
  have n1_ := Aside0.mk (below_drew1 HB.out)
  clear BK304
  clear HB
  have BK304 := n0_
  have HB := n1_
  clear n0_ n1_
  refine start_ (n := 11) (S := fun w' => w'.cell? ⟨gb304, 0, none⟩ = some (.int .i64 a0_0) ∧ w'.cell? ⟨gb304, 1, none⟩ = some (.int .i64 a0_1) ∧ w'.cell? ⟨gb304, 2, none⟩ = some (.slice A0_2 l0_2.length c0_2)) (ds := []) #[false, false, false, false, false, false, false, false, false, false, false] (by kernel_rfl) rfl rfl ⟨(blk_cell BK304.out 0).trans rfl, (blk_cell BK304.out 1).trans rfl, (blk_cell BK304.out 2).trans rfl⟩ (fun hHeld => ?_); refine with_tabW semigrouplaw04_ExprValidates.tab1 semigrouplaw04_ExprValidates.bits1 (fun HT_ HW_ => ?_)
  generalize w7.drew = w8 at BK304 HB hHeld ⊢
  refine pure_ (i := 1) (N := some 6) (v := ?_) (a' := ?_) #[false, true, false, false, false, false, false, false, false, false, false] rfl rfl (any_of HT_.out (by kernel_rfl)) (fun _ _ _ h => h) (Or.inl ⟨by rfl, ?_⟩) ?_ ?_
  rotate_left
  ·intro w'
   go_simp
   with_reducible rfl
  rotate_left
  ·simp only [Act.put, List.setIfInBounds_toArray, List.set_cons_zero, List.set_cons_succ, i64_w, i32_w]
   rfl
  refine pure_ (i := 4) (N := some 9) (v := ?_) (a' := ?_) #[false, true, false, false, true, false, false, false, false, false, false] rfl rfl (any_of HT_.out (by kernel_rfl)) (fun _ _ _ h => h) (Or.inl ⟨by rfl, ?_⟩) ?_ ?_
  rotate_left
  ·intro w'
   go_simp
   with_reducible rfl
  rotate_left
  ·simp only [Act.put, List.setIfInBounds_toArray, List.set_cons_zero, List.set_cons_succ, i64_w, i32_w]
   rfl
  refine take_ (i := 0) (N := some 5) (v := ?_) (a' := ?_) #[true, true, false, false, true, false, false, false, false, false, false] rfl rfl (take_ofW HT_.out HW_.out (by kernel_rfl)) (fun _ _ _ h => h) (Or.inl ⟨by rfl, ?_⟩) hHeld ?_ ?_
  rotate_left
  ·rintro w' ⟨s0, s1, s2⟩
   go_simp
   with_reducible rfl
  rotate_left
  ·simp only [Act.put, List.setIfInBounds_toArray, List.set_cons_zero, List.set_cons_succ, i64_w, i32_w]
   rfl
  refine take_ (i := 3) (N := some 8) (v := ?_) (a' := ?_) #[true, true, false, true, true, false, false, false, false, false, false] rfl rfl (take_ofW HT_.out HW_.out (by kernel_rfl)) (fun _ _ _ h => h) (Or.inl ⟨by rfl, ?_⟩) hHeld ?_ ?_
  rotate_left
  ·rintro w' ⟨s0, s1, s2⟩
   go_simp
   with_reducible rfl
  rotate_left
  ·simp only [Act.put, List.setIfInBounds_toArray, List.set_cons_zero, List.set_cons_succ, i64_w, i32_w]
   rfl
  refine one_ (i := 2) (N := some 7) #[true, true, true, true, true, false, false, false, false, false, false] rfl rfl (one_of HT_.out (by kernel_rfl)) (by decide) (fun K hK => ?_)
  refine goes_ Try.func15 (by kernel_rfl) rfl #[.agg #[.int .i64 a0_0, .int .i64 a0_1, .slice A0_2 l0_2.length c0_2], .int .i64 a1] (by rfl) rfl rfl (by (try simp only [List.map_toArray, List.map_cons, List.map_nil]); first | done | rfl | (simp only [List.length_drop, List.length_take]; rfl)) ?_
  with_reducible refine (expr_Validate.calls k a0_0 a0_1 _ _ l0_2 a1 t305 _ ?side1 ?side2 A3.out).mono ?_
  (case side1 => repeat (first | exact (Kd.C_below HR0_2.out HB.out) | (with_reducible refine Kd.C_alloc ?_ _) | (with_reducible refine Kd.C_drewN ?_ _) | (with_reducible refine Kd.C_drew ?_)))
  (case side2 => exact HC0_2.out)
  rintro e w9 ⟨rfl, hb⟩
  refine ⟨_, rfl, ?_⟩
  have n0_ := Aside0.mk (blk_below (g := gb304) (o := .cells #[.int .i64 a0_0, .int .i64 a0_1, .slice A0_2 l0_2.length c0_2] 24 (0, 0)) (bK) hb)
  have n1_ := Aside0.mk (below_step (bB) hb)
  clear BK304
  clear HB
  have BK304 := n0_
  have HB := n1_
  clear n0_ n1_
  (try clear hb)
  (try clear hb2)
  (try clear hk)
  (try clear hi)
  refine hK.out _ _ ⟨(blk_cell BK304.out 0).trans rfl, (blk_cell BK304.out 1).trans rfl, (blk_cell BK304.out 2).trans rfl⟩ (fun hHeld => ?_)
  clear hK K
  refine norm_ (a' := ?_) ?_ ?_
  rotate_left
  ·show Act.put _ (some 7) _ = _
   simp only [Act.put, List.setIfInBounds_toArray, List.set_cons_zero, List.set_cons_succ, i64_w, i32_w]
   rfl
  refine one_ (i := 5) (N := some 10) #[true, true, true, true, true, true, false, false, false, false, false] rfl rfl (one_of HT_.out (by kernel_rfl)) (by decide) (fun K hK => ?_)
  refine goes_ Try.func16 (by kernel_rfl) rfl #[.agg #[.int .i64 a0_0, .int .i64 a0_1, .slice A0_2 l0_2.length c0_2], .int .i64 a1] (by rfl) rfl rfl (by (try simp only [List.map_toArray, List.map_cons, List.map_nil]); first | done | rfl | (simp only [List.length_drop, List.length_take]; rfl)) ?_
  with_reducible refine (semigroupref04_Validate.calls k a0_0 a0_1 _ _ l0_2 a1 t306 _ ?side1 ?side2 A4.out).mono ?_
  (case side1 => repeat (first | exact (Kd.C_below HR0_2.out HB.out) | (with_reducible refine Kd.C_alloc ?_ _) | (with_reducible refine Kd.C_drewN ?_ _) | (with_reducible refine Kd.C_drew ?_)))
  (case side2 => exact HC0_2.out)
  rintro e w10 ⟨rfl, hb⟩
  refine ⟨_, rfl, ?_⟩
  have n0_ := Aside0.mk (blk_below (g := gb304) (o := .cells #[.int .i64 a0_0, .int .i64 a0_1, .slice A0_2 l0_2.length c0_2] 24 (0, 0)) (bK) hb)
  have n1_ := Aside0.mk (below_step (bB) hb)
  clear BK304
  clear HB
  have BK304 := n0_
  have HB := n1_
  clear n0_ n1_
  (try clear hb)
  (try clear hb2)
  (try clear hk)
  (try clear hi)
  refine hK.out _ _ ⟨(blk_cell BK304.out 0).trans rfl, (blk_cell BK304.out 1).trans rfl, (blk_cell BK304.out 2).trans rfl⟩ (fun hHeld => ?_)
  clear hK K
  refine norm_ (a' := ?_) ?_ ?_
  rotate_left
  ·show Act.put _ (some 10) _ = _
   simp only [Act.put, List.setIfInBounds_toArray, List.set_cons_zero, List.set_cons_succ, i64_w, i32_w]
   rfl
  refine pure_ (i := 6) (N := some 11) (v := ?_) (a' := ?_) #[true, true, true, true, true, true, true, false, false, false, false] rfl rfl (any_of HT_.out (by kernel_rfl)) (fun _ _ _ h => h) (Or.inl ⟨by rfl, ?_⟩) ?_ ?_
  rotate_left
  ·intro w'
   go_simp
   with_reducible rfl
  rotate_left
  ·simp only [Act.put, List.setIfInBounds_toArray, List.set_cons_zero, List.set_cons_succ, i64_w, i32_w]
   rfl
  refine pure_ (i := 7) (N := some 12) (v := ?_) (a' := ?_) #[true, true, true, true, true, true, true, true, false, false, false] rfl rfl (any_of HT_.out (by kernel_rfl)) (fun _ _ _ h => h) (Or.inl ⟨by rfl, ?_⟩) ?_ ?_
  rotate_left
  ·intro w'
   go_simp
   with_reducible rfl
  rotate_left
  ·simp only [Act.put, List.setIfInBounds_toArray, List.set_cons_zero, List.set_cons_succ, i64_w, i32_w]
   rfl
  refine one_ (i := 8) (N := some 13) #[true, true, true, true, true, true, true, true, true, false, false] rfl rfl (one_of HT_.out (by kernel_rfl)) (by decide) (fun K hK => ?_)
  refine goes_ Try.func17 (by kernel_rfl) rfl #[] (by rfl) rfl rfl (by (try simp only [List.map_toArray, List.map_cons, List.map_nil]); first | done | rfl | (simp only [List.length_drop, List.length_take]; rfl)) ?_
  with_reducible refine (semigrouplaw04_awake.calls k  t307 _ A6.out).mono ?_
  rintro e w11 ⟨rfl, hb⟩
  refine ⟨_, rfl, ?_⟩
  have n0_ := Aside0.mk (blk_below (g := gb304) (o := .cells #[.int .i64 a0_0, .int .i64 a0_1, .slice A0_2 l0_2.length c0_2] 24 (0, 0)) (bK) hb)
  have n1_ := Aside0.mk (below_step (bB) hb)
  clear BK304
  clear HB
  have BK304 := n0_
  have HB := n1_
  clear n0_ n1_
  (try clear hb)
  (try clear hb2)
  (try clear hk)
  (try clear hi)
  refine hK.out _ _ ⟨(blk_cell BK304.out 0).trans rfl, (blk_cell BK304.out 1).trans rfl, (blk_cell BK304.out 2).trans rfl⟩ (fun hHeld => ?_)
  clear hK K
  refine norm_ (a' := ?_) ?_ ?_
  rotate_left
  ·show Act.put _ (some 13) _ = _
   simp only [Act.put, List.setIfInBounds_toArray, List.set_cons_zero, List.set_cons_succ, i64_w, i32_w]
   rfl
  refine pure_ (i := 9) (N := some 14) (v := ?_) (a' := ?_) #[true, true, true, true, true, true, true, true, true, true, false] rfl rfl (any_of HT_.out (by kernel_rfl)) (fun _ _ _ h => h) (Or.inl ⟨by rfl, ?_⟩) ?_ ?_
  rotate_left
  ·intro w'
   go_simp
   with_reducible rfl
  rotate_left
  ·simp only [Act.put, List.setIfInBounds_toArray, List.set_cons_zero, List.set_cons_succ, i64_w, i32_w]
   rfl
  refine pure_ (i := 10) (N := some 4) (v := ?_) (a' := ?_) #[true, true, true, true, true, true, true, true, true, true, true] rfl rfl (any_of HT_.out (by kernel_rfl)) (fun _ _ _ h => h) (Or.inl ⟨by rfl, ?_⟩) ?_ ?_
  rotate_left
  ·intro w'
   go_simp
   with_reducible rfl
  rotate_left
  ·simp only [Act.put, List.setIfInBounds_toArray, List.set_cons_zero, List.set_cons_succ, i64_w, i32_w]
   rfl
  refine done_ (done_of HT_.out (by kernel_rfl)) ?_
  try go_wp2
  go_ret
  exact ⟨by first | rfl | (simp [errW_none, errW_some] <;> rfl) | (simp [*, errW_none, errW_some] <;> rfl), bB⟩
 ·rw [if_neg c5] at H
  have c5b0 : (t305 == t306) = false := beq_eq_false_iff_ne.mpr c5
  have c5b1 : (t305 != t306) = true := bne_iff_ne.mpr c5
  obtain rfl := Option.some.inj H
  go_enter Try.func3, Try.ntmps3
  try go_wp2_with (first | ((with_reducible refine gate_dst (N := 2) rfl ?_); refine box_event ?hg (N := 2) ?hd (cs := #[.int .i64 a0_0, .int .i64 a0_1, .slice A0_2 l0_2.length c0_2]) (t := 24) ?hr ?_; (case hd => rfl); (case hg => rfl); (case hr => first | (go_simp; done) | (go_simp; rfl)); intro gb304 hg w12 hbox hb; have n0_ := Aside0.mk (below_step (bB) hb); have n1_ := Aside0.mk (hbox); have n2_ := Aside0.mk ((by rw [hg]; exact (below_size (bB)) : w.heap.size ≤ gb304)); have n3_ := Aside0.mk ((by rw [hg]; exact (below_size (bB)) : w.heap.size ≤ gb304)); clear HB; have HB := n0_; have BK304 := n1_; have GW304 := n2_; have GE304 := n3_; clear n0_ n1_ n2_ n3_; clear hb hbox hg))
  have n0_ := Aside0.mk (blk_drew BK304.out)
  have n1_ := Aside0.mk (below_drew1 HB.out)
  clear BK304
  clear HB
  have BK304 := n0_
  have HB := n1_
  clear n0_ n1_
  refine start_ (n := 11) (S := fun w' => w'.cell? ⟨gb304, 0, none⟩ = some (.int .i64 a0_0) ∧ w'.cell? ⟨gb304, 1, none⟩ = some (.int .i64 a0_1) ∧ w'.cell? ⟨gb304, 2, none⟩ = some (.slice A0_2 l0_2.length c0_2)) (ds := []) #[false, false, false, false, false, false, false, false, false, false, false] (by kernel_rfl) rfl rfl ⟨(blk_cell BK304.out 0).trans rfl, (blk_cell BK304.out 1).trans rfl, (blk_cell BK304.out 2).trans rfl⟩ (fun hHeld => ?_); refine with_tabW semigrouplaw04_ExprValidates.tab1 semigrouplaw04_ExprValidates.bits1 (fun HT_ HW_ => ?_)
  generalize w12.drew = w13 at BK304 HB hHeld ⊢
  refine pure_ (i := 1) (N := some 6) (v := ?_) (a' := ?_) #[false, true, false, false, false, false, false, false, false, false, false] rfl rfl (any_of HT_.out (by kernel_rfl)) (fun _ _ _ h => h) (Or.inl ⟨by rfl, ?_⟩) ?_ ?_
  rotate_left
  ·intro w'
   go_simp
   with_reducible rfl
  rotate_left
  ·simp only [Act.put, List.setIfInBounds_toArray, List.set_cons_zero, List.set_cons_succ, i64_w, i32_w]
   rfl
  refine pure_ (i := 4) (N := some 9) (v := ?_) (a' := ?_) #[false, true, false, false, true, false, false, false, false, false, false] rfl rfl (any_of HT_.out (by kernel_rfl)) (fun _ _ _ h => h) (Or.inl ⟨by rfl, ?_⟩) ?_ ?_
  rotate_left
  ·intro w'
   go_simp
   with_reducible rfl
  rotate_left
  ·simp only [Act.put, List.setIfInBounds_toArray, List.set_cons_zero, List.set_cons_succ, i64_w, i32_w]
   rfl
  refine take_ (i := 0) (N := some 5) (v := ?_) (a' := ?_) #[true, true, false, false, true, false, false, false, false, false, false] rfl rfl (take_ofW HT_.out HW_.out (by kernel_rfl)) (fun _ _ _ h => h) (Or.inl ⟨by rfl, ?_⟩) hHeld ?_ ?_
  rotate_left
  ·rintro w' ⟨s0, s1, s2⟩
   go_simp
   with_reducible rfl
  rotate_left
  ·simp only [Act.put, List.setIfInBounds_toArray, List.set_cons_zero, List.set_cons_succ, i64_w, i32_w]
   rfl
  refine take_ (i := 3) (N := some 8) (v := ?_) (a' := ?_) #[true, true, false, true, true, false, false, false, false, false, false] rfl rfl (take_ofW HT_.out HW_.out (by kernel_rfl)) (fun _ _ _ h => h) (Or.inl ⟨by rfl, ?_⟩) hHeld ?_ ?_
  rotate_left
  ·rintro w' ⟨s0, s1, s2⟩
   go_simp
   with_reducible rfl
  rotate_left
  ·simp only [Act.put, List.setIfInBounds_toArray, List.set_cons_zero, List.set_cons_succ, i64_w, i32_w]
   rfl
  refine one_ (i := 2) (N := some 7) #[true, true, true, true, true, false, false, false, false, false, false] rfl rfl (one_of HT_.out (by kernel_rfl)) (by decide) (fun K hK => ?_)
  refine goes_ Try.func15 (by kernel_rfl) rfl #[.agg #[.int .i64 a0_0, .int .i64 a0_1, .slice A0_2 l0_2.length c0_2], .int .i64 a1] (by rfl) rfl rfl (by (try simp only [List.map_toArray, List.map_cons, List.map_nil]); first | done | rfl | (simp only [List.length_drop, List.length_take]; rfl)) ?_
  with_reducible refine (expr_Validate.calls k a0_0 a0_1 _ _ l0_2 a1 t305 _ ?side1 ?side2 A3.out).mono ?_
  (case side1 => repeat (first | exact (Kd.C_below HR0_2.out HB.out) | (with_reducible refine Kd.C_alloc ?_ _) | (with_reducible refine Kd.C_drewN ?_ _) | (with_reducible refine Kd.C_drew ?_)))
  (case side2 => exact HC0_2.out)
  rintro e w14 ⟨rfl, hb⟩
  refine ⟨_, rfl, ?_⟩
  have n0_ := Aside0.mk (blk_below (g := gb304) (o := .cells #[.int .i64 a0_0, .int .i64 a0_1, .slice A0_2 l0_2.length c0_2] 24 (0, 0)) (bK) hb)
  have n1_ := Aside0.mk (below_step (bB) hb)
  clear BK304
  clear HB
  have BK304 := n0_
  have HB := n1_
  clear n0_ n1_
  (try clear hb)
  (try clear hb2)
  (try clear hk)
  (try clear hi)
  refine hK.out _ _ ⟨(blk_cell BK304.out 0).trans rfl, (blk_cell BK304.out 1).trans rfl, (blk_cell BK304.out 2).trans rfl⟩ (fun hHeld => ?_)
  clear hK K
  refine norm_ (a' := ?_) ?_ ?_
  rotate_left
  ·show Act.put _ (some 7) _ = _
   simp only [Act.put, List.setIfInBounds_toArray, List.set_cons_zero, List.set_cons_succ, i64_w, i32_w]
   rfl
  refine one_ (i := 5) (N := some 10) #[true, true, true, true, true, true, false, false, false, false, false] rfl rfl (one_of HT_.out (by kernel_rfl)) (by decide) (fun K hK => ?_)
  refine goes_ Try.func16 (by kernel_rfl) rfl #[.agg #[.int .i64 a0_0, .int .i64 a0_1, .slice A0_2 l0_2.length c0_2], .int .i64 a1] (by rfl) rfl rfl (by (try simp only [List.map_toArray, List.map_cons, List.map_nil]); first | done | rfl | (simp only [List.length_drop, List.length_take]; rfl)) ?_
  with_reducible refine (semigroupref04_Validate.calls k a0_0 a0_1 _ _ l0_2 a1 t306 _ ?side1 ?side2 A4.out).mono ?_
  (case side1 => repeat (first | exact (Kd.C_below HR0_2.out HB.out) | (with_reducible refine Kd.C_alloc ?_ _) | (with_reducible refine Kd.C_drewN ?_ _) | (with_reducible refine Kd.C_drew ?_)))
  (case side2 => exact HC0_2.out)
  rintro e w15 ⟨rfl, hb⟩
  refine ⟨_, rfl, ?_⟩
  have n0_ := Aside0.mk (blk_below (g := gb304) (o := .cells #[.int .i64 a0_0, .int .i64 a0_1, .slice A0_2 l0_2.length c0_2] 24 (0, 0)) (bK) hb)
  have n1_ := Aside0.mk (below_step (bB) hb)
  clear BK304
  clear HB
  have BK304 := n0_
  have HB := n1_
  clear n0_ n1_
  (try clear hb)
  (try clear hb2)
  (try clear hk)
  (try clear hi)
  refine hK.out _ _ ⟨(blk_cell BK304.out 0).trans rfl, (blk_cell BK304.out 1).trans rfl, (blk_cell BK304.out 2).trans rfl⟩ (fun hHeld => ?_)
  clear hK K
  refine norm_ (a' := ?_) ?_ ?_
  rotate_left
  ·show Act.put _ (some 10) _ = _
   simp only [Act.put, List.setIfInBounds_toArray, List.set_cons_zero, List.set_cons_succ, i64_w, i32_w]
   rfl
  refine pure_ (i := 6) (N := some 11) (v := ?_) (a' := ?_) #[true, true, true, true, true, true, true, false, false, false, false] rfl rfl (any_of HT_.out (by kernel_rfl)) (fun _ _ _ h => h) (Or.inl ⟨by rfl, ?_⟩) ?_ ?_
  rotate_left
  ·intro w'
   go_simp
   with_reducible rfl
  rotate_left
  ·simp only [Act.put, List.setIfInBounds_toArray, List.set_cons_zero, List.set_cons_succ, i64_w, i32_w]
   rfl
  refine pure_ (i := 7) (N := some 12) (v := ?_) (a' := ?_) #[true, true, true, true, true, true, true, true, false, false, false] rfl rfl (any_of HT_.out (by kernel_rfl)) (fun _ _ _ h => h) (Or.inl ⟨by rfl, ?_⟩) ?_ ?_
  rotate_left
  ·intro w'
   go_simp
   with_reducible rfl
  rotate_left
  ·simp only [Act.put, List.setIfInBounds_toArray, List.set_cons_zero, List.set_cons_succ, i64_w, i32_w]
   rfl
  refine pure_ (i := 8) (N := some 13) (v := undef) (a' := ?_) #[true, true, true, true, true, true, true, true, true, false, false] rfl rfl (any_of HT_.out (by kernel_rfl)) (fun _ _ _ h => h) (Or.inr ⟨by rfl, rfl⟩) ?_ ?_
  rotate_left
  ·simp only [Act.put, List.setIfInBounds_toArray, List.set_cons_zero, List.set_cons_succ, i64_w, i32_w]
   rfl
  refine pure_ (i := 9) (N := some 14) (v := ?_) (a' := ?_) #[true, true, true, true, true, true, true, true, true, true, false] rfl rfl (any_of HT_.out (by kernel_rfl)) (fun _ _ _ h => h) (Or.inl ⟨by rfl, ?_⟩) ?_ ?_
  rotate_left
  ·intro w'
   go_simp
   with_reducible rfl
  rotate_left
  ·simp only [Act.put, List.setIfInBounds_toArray, List.set_cons_zero, List.set_cons_succ, i64_w, i32_w]
   rfl
  refine pure_ (i := 10) (N := some 4) (v := ?_) (a' := ?_) #[true, true, true, true, true, true, true, true, true, true, true] rfl rfl (any_of HT_.out (by kernel_rfl)) (fun _ _ _ h => h) (Or.inl ⟨by rfl, ?_⟩) ?_ ?_
  rotate_left
  ·intro w'
   go_simp
   with_reducible rfl
  rotate_left
  ·simp only [Act.put, List.setIfInBounds_toArray, List.set_cons_zero, List.set_cons_succ, i64_w, i32_w]
   rfl
  refine done_ (done_of HT_.out (by kernel_rfl)) ?_
  try go_wp2
  go_ret
  exact ⟨by first | rfl | (simp [errW_none, errW_some] <;> rfl) | (simp [*, errW_none, errW_some] <;> rfl), bB⟩
end Go.Proofs.Ytjofkebiacaciaa.PAll
end
section
namespace Go.Proofs.Ytjofkebiacaciaa.PAll
open Go.RowKit Go.Proofs.YtjofkebiacaciaaW.PrintWords Go.Proofs.YtjofkebiacaciaaW.PrintLast Go.Proofs.YtjofkebiacaciaaW.PrintMore
attribute [local go_sem] max2_int min2_int max_two min_two max_three min_three max_four min_four
set_option linter.unusedVariables false
set_option linter.unusedSimpArgs false
def semigroupref04_Valid.f (k : Nat) (a0_0 : Int) (a0_1 : Int) (l0_2 : List (S24)) : Option (Bool) := (semigroupref04_Validate.f k a0_0 a0_1 l0_2 6).bind fun t309 => (some (t309 == 0))
theorem semigroupref04_Valid.mono : ∀ a0 a1 a2 k, LeO (semigroupref04_Valid.f k a0 a1 a2) (semigroupref04_Valid.f (k + 1) a0 a1 a2) := by
 intro a0 a1 a2 k
 unfold semigroupref04_Valid.f
 repeat' first
   | (with_reducible exact semigroupref04_Validate.mono _ _ _ _ _)
   | (with_reducible exact LeO.refl _)
   | (with_reducible exact LeO.none _)
   | (with_reducible refine LeO.ite ?_ ?_)
   | (with_reducible refine LeO.bind ?_ (fun _ => ?_))
   | exact semigroupref04_Validate.mono _ _ _ _ _
   | exact LeO.none _
   | refine LeO.ite ?_ ?_
   | refine LeO.bind ?_ (fun _ => ?_)
set_option maxHeartbeats 8000000 in
set_option maxRecDepth 100000 in
theorem semigroupref04_Valid.calls (k : Nat) (a0_0 : Int) (a0_1 : Int) (A0_2 : Option Addr) (c0_2 : Nat) (l0_2 : List (S24)) (r : Bool) (w : World) (hr0_2 : Kd.C k24 w A0_2 l0_2.length l0_2) (hc0_2 : l0_2.length ≤ c0_2) (h : semigroupref04_Valid.f k a0_0 a0_1 l0_2 = some r) :
  Calls Try.prog 19 #[.agg #[.int .i64 a0_0, .int .i64 a0_1, .slice A0_2 l0_2.length c0_2]] w fun e w' => e = .returned (.bool r) ∧ Below w.heap.size w w' := by
 have hu24 := Try.underlying24
 have HR0_2 := Aside0.mk hr0_2
 have HC0_2 := Aside0.mk hc0_2
 clear hr0_2 hc0_2
 have HB := Aside0.mk (Below.refl w.heap.size w)
 have H : ((semigroupref04_Validate.f k a0_0 a0_1 l0_2 6).bind fun t309 => (some (t309 == 0))) = some r := h
 clear h
 replace H := Option.bind_eq_some_iff.mp H
 obtain ⟨t309, A20, H⟩ := H
 replace H : (some (t309 == 0)) = some r := H
 have A2 := Aside0.mk A20
 clear A20
 obtain rfl := Option.some.inj H
 go_enter Try.func19, Try.ntmps19
 go_wp2_with (first | ((with_reducible refine gate_dst (N := 1) rfl ?_); refine box_event ?hg (N := 1) ?hd (cs := #[.int .i64 a0_0, .int .i64 a0_1, .slice A0_2 l0_2.length c0_2]) (t := 24) ?hr ?_; (case hd => rfl); (case hg => rfl); (case hr => first | (go_simp; done) | (go_simp; rfl)); intro gb308 hg w3 hbox hb; have n0_ := Aside0.mk (below_step (bB) hb); have n1_ := Aside0.mk (hbox); have n2_ := Aside0.mk ((by rw [hg]; exact (below_size (bB)) : w.heap.size ≤ gb308)); have n3_ := Aside0.mk ((by rw [hg]; exact (below_size (bB)) : w.heap.size ≤ gb308)); clear HB; have HB := n0_; have BK308 := n1_; have GW308 := n2_; have GE308 := n3_; clear n0_ n1_ n2_ n3_; clear hb hbox hg; have hcz4_0 : w3.cell? ⟨gb308, 0, none⟩ = some (.int .i64 a0_0) := (blk_cell BK308.out 0).trans rfl; have hcz4_1 : w3.cell? ⟨gb308, 1, none⟩ = some (.int .i64 a0_1) := (blk_cell BK308.out 1).trans rfl; have hcz4_2 : w3.cell? ⟨gb308, 2, none⟩ = some (.slice A0_2 l0_2.length c0_2) := (blk_cell BK308.out 2).trans rfl; have hfz4_0 := blk_frozen BK308.out 0; have hfz4_1 := blk_frozen BK308.out 1; have hfz4_2 := blk_frozen BK308.out 2) | ((with_reducible refine gate_callee (f := 16) rfl ?_); refine goesL_ (some 4) rfl rfl Try.func16 (by kernel_rfl) rfl #[.agg #[.int .i64 a0_0, .int .i64 a0_1, .slice A0_2 l0_2.length c0_2], .int .i64 6] rfl (by (try simp only [List.map_toArray, List.map_cons, List.map_nil]); first | done | rfl | (simp only [List.length_drop, List.length_take]; rfl) | (simp only [Int.ofNat_lt, Int.ofNat_le]; rfl)) ?_; (with_reducible refine (semigroupref04_Validate.calls k a0_0 a0_1 _ _ l0_2 6 t309 _ ?side1 ?side2 A2.out).mono ?_); (case side1 => repeat (first | exact (Kd.C_below HR0_2.out HB.out) | (with_reducible refine Kd.C_alloc ?_ _) | (with_reducible refine Kd.C_drewN ?_ _) | (with_reducible refine Kd.C_drew ?_))); (case side2 => exact HC0_2.out); rintro e w5 ⟨rfl, hb⟩; refine ⟨_, rfl, ?_⟩; have n0_ := Aside0.mk (blk_below (g := gb308) (o := .cells #[.int .i64 a0_0, .int .i64 a0_1, .slice A0_2 l0_2.length c0_2] 24 (0, 0)) (bK) hb); have n1_ := Aside0.mk (below_step (bB) hb); clear BK308; clear HB; have BK308 := n0_; have HB := n1_; clear n0_ n1_; (try clear hb); (try clear hb2); (try clear hk); (try clear hi)))
 go_ret
 exact ⟨by first | rfl | (simp [errW_none, errW_some] <;> rfl) | (simp [*, errW_none, errW_some] <;> rfl), bB⟩
end Go.Proofs.Ytjofkebiacaciaa.PAll
end
section
namespace Go.Proofs.Ytjofkebiacaciaa.T04
open Go Go.RowKit Go.Proofs.Ytjofkebiacaciaa.PAll Go.Proofs.YtjofkebiacaciaaW.PrintWords Go.Proofs.YtjofkebiacaciaaW.PrintLast Go.Proofs.YtjofkebiacaciaaW.PrintMore Go.Proofs.Ytjofkebiacaciaa.AllRead24
set_option linter.all false
def opKids (o : Int) (n : Nat) : Bool :=
 if o = 1 ∨ o = 2 ∨ o = 3 then decide (n = 0) else if o = 7 ∨ o = 8 then decide (n = 1) else if o = 4 ∨ o = 5 ∨ o = 6 then decide (2 ≤ n) else false
def letOK (o a L : Int) : Bool := if o = 3 then decide (0 ≤ a ∧ a < L) else decide (a = 0)
mutual
def shp (L : Int) : S24 → Bool
 | ⟨o, a, l⟩ => opKids o l.length && (letOK o a L && shps L l)
def shps (L : Int) : List S24 → Bool
 | [] => true
 | x :: r => shp L x && shps L r
end
theorem shp_mk (L : Int) (e : S24) : shp L e = (opKids e.f0 e.f2.length && (letOK e.f0 e.f1 L && shps L e.f2)) := by cases e; rw [shp]
theorem shps_mem {L : Int} {l : List S24} (h : shps L l = true) {x : S24} (hx : x ∈ l) : shp L x = true := by
 induction l with
 | nil => cases hx
 | cons y r ih =>
  simp [shps] at h
  rcases List.mem_cons.mp hx with rfl | hx
  ·exact h.1
  ·exact ih h.2 hx
theorem Ev.if {α : Type} {c : Prop} [Decidable c] {a b : Nat → Option α} {x y : α} (h1 : c → Ev a x) (h2 : ¬ c → Ev b y) : Ev (fun k => if c then a k else b k) (if c then x else y) := by
 by_cases h : c
 ·simp only [if_pos h]; exact h1 h
 ·simp only [if_neg h]; exact h2 h
theorem Ev.to {α : Type} {g : Nat → Option α} {x y : α} (h : Ev g x) (e : x = y) : Ev g y := e ▸ h
theorem shaped_prog (L : Int) (e : S24) : WF e → size e ≤ 400 → Ev (fun k => expr_shaped.f k e.f0 e.f1 e.f2 L) (shp L e) := by
 induction e using ind with
 | h e ih =>
 intro hw hs
 have hs' : sizes e.f2 ≤ 399 := by rw [size_mk] at hs; omega
 have hlen : e.f2.length ≤ 399 := Nat.le_trans (length_le_sizes _) hs'
 have loop : ∀ (r pre : List S24), e.f2 = pre ++ r → Ev (fun k => expr_shaped.l0 k L e.f2 (e.f2.length : Int) (pre.length : Int)) (shps L r) := by
  intro r
  induction r with
  | nil =>
   intro pre hp
   exact Ev.step (fun k => by simp only [expr_shaped.l0]; rw [hp, if_neg (not_lt_end pre)]; rfl) (Ev.now _)
  | cons x r ihr =>
   intro pre hp
   have hx : x ∈ e.f2 := by rw [hp]; simp
   have h1 := ih x hx (hw.kid hx) (by have := sizes_mem hx; omega)
   refine Ev.step (f := fun k => (expr_shaped.f k x.f0 x.f1 x.f2 L).bind fun t => (if t = true then (expr_shaped.l0 k L e.f2 (e.f2.length : Int) ((pre ++ [x]).length : Int)) else some false)) (fun k => ?_) (Ev.bind h1 ?_)
   ·simp only [expr_shaped.l0]
    rw [← next_mid (r := r) (x := x) (by rw [← hp]; exact hw.len), hp, if_pos (lt_mid pre x r), if_pos (ge0 _), if_pos (lt_mid pre x r), rd_mid]
   ·refine Ev.to (Ev.if (fun _ => ihr (pre ++ [x]) (by rw [hp]; exact shift_mid pre x r)) (fun _ => Ev.now false)) ?_
    simp [shps]
    try (cases shp L x <;> simp)
 have l0 := loop e.f2 [] rfl
 have j4 : ∀ b, Ev (fun k => expr_shaped.j4 k L b e.f0 e.f1 e.f2) (!b && shps L e.f2) := fun b =>
  Ev.step (f := fun k => if b = true then some false else expr_shaped.l0 k L e.f2 (e.f2.length : Int) 0) (fun k => by simp only [expr_shaped.j4]) (Ev.to (Ev.if (fun _ => Ev.now false) (fun _ => l0)) (by cases b <;> simp))
 have j3 : ∀ b, Ev (fun k => expr_shaped.j3 k L b e.f0 e.f1 e.f2) (!b && (letOK e.f0 e.f1 L && shps L e.f2)) := fun b =>
  Ev.step (fun k => by simp only [expr_shaped.j3]; rfl) (Ev.to (Ev.if (fun _ => Ev.now false) (fun _ => Ev.if (fun _ => Ev.if (fun _ => j4 _) (fun _ => Ev.if (fun _ => j4 _) (fun _ => j4 _))) (fun _ => j4 _))) (by
   unfold letOK
   cases b with
   | true => simp
   | false =>
    by_cases h3 : e.f0 = 3
    ·by_cases h4 : e.f1 < 0
     ·simp [h3, h4]; omega
     ·by_cases h5 : e.f1 ≥ L
      ·simp [h3, h4, h5]; omega
      ·simp [h3, h4, h5]; omega
    ·simp [h3]; by_cases h0 : e.f1 = 0 <;> simp [h0]))
 let J2 (least most : Nat) : Bool := decide (least ≤ e.f2.length ∧ e.f2.length ≤ most) && (letOK e.f0 e.f1 L && shps L e.f2)
 have j2 : ∀ least most : Nat, Ev (fun k => expr_shaped.j2 k L least most e.f0 e.f1 e.f2) (J2 least most) := fun least most =>
  Ev.step (fun k => by simp only [expr_shaped.j2]; rfl) (Ev.to (Ev.if (fun _ => j3 _) (fun _ => j3 _)) (by
   show _ = (decide (least ≤ e.f2.length ∧ e.f2.length ≤ most) && (letOK e.f0 e.f1 L && shps L e.f2))
   by_cases h : (e.f2.length : Int) < least
   ·have : ¬ (least ≤ e.f2.length ∧ e.f2.length ≤ most) := by omega
    simp only [if_pos h, decide_eq_false this]; simp
   ·by_cases h2 : (e.f2.length : Int) > most
    ·have : ¬ (least ≤ e.f2.length ∧ e.f2.length ≤ most) := by omega
     simp only [if_neg h, decide_eq_true h2, decide_eq_false this]; simp
    ·have : (least ≤ e.f2.length ∧ e.f2.length ≤ most) := by omega
     simp only [if_neg h, decide_eq_false h2, decide_eq_true this]; simp))
 have j1 : ∀ b, Ev (fun k => expr_shaped.j1 k L e.f0 b e.f0 e.f1 e.f2) (if b = true then J2 2 400 else if e.f0 = 7 then J2 1 1 else if e.f0 = 8 then J2 1 1 else false) := fun b =>
  Ev.step (fun k => by simp only [expr_shaped.j1]; rfl) (Ev.if (fun _ => j2 2 400) (fun _ => Ev.if (fun _ => j2 1 1) (fun _ => Ev.if (fun _ => j2 1 1) (fun _ => Ev.now false))))
 have j0 : ∀ b, Ev (fun k => expr_shaped.j0 k L 0 0 e.f0 b e.f0 e.f1 e.f2) (if b = true then J2 0 0 else if e.f0 = 4 ∨ e.f0 = 5 ∨ e.f0 = 6 then J2 2 400 else if e.f0 = 7 ∨ e.f0 = 8 then J2 1 1 else false) := fun b =>
  Ev.step (fun k => by simp only [expr_shaped.j0]; rfl) (Ev.to (Ev.if (fun _ => j2 0 0) (fun _ => Ev.if (fun _ => j1 _) (fun _ => Ev.if (fun _ => j1 _) (fun _ => j1 _)))) (by
   cases b with
   | true => simp
   | false =>
    by_cases h4 : e.f0 = 4
    ·simp [h4]
    ·by_cases h5 : e.f0 = 5
     ·simp [h5]
     ·by_cases h6 : e.f0 = 6
      ·simp [h6]
      ·by_cases h7 : e.f0 = 7
       ·simp [h7]
       ·by_cases h8 : e.f0 = 8
        ·simp [h8]
        ·simp [h4, h5, h6, h7, h8]))
 have a0 : J2 0 0 = (decide (e.f2.length = 0) && (letOK e.f0 e.f1 L && shps L e.f2)) := by
  show (decide (0 ≤ e.f2.length ∧ e.f2.length ≤ 0) && _) = _
  rw [show decide (0 ≤ e.f2.length ∧ e.f2.length ≤ 0) = decide (e.f2.length = 0) from by rw [decide_eq_decide]; omega]
 have a1 : J2 1 1 = (decide (e.f2.length = 1) && (letOK e.f0 e.f1 L && shps L e.f2)) := by
  show (decide (1 ≤ e.f2.length ∧ e.f2.length ≤ 1) && _) = _
  rw [show decide (1 ≤ e.f2.length ∧ e.f2.length ≤ 1) = decide (e.f2.length = 1) from by rw [decide_eq_decide]; omega]
 have a2 : J2 2 400 = (decide (2 ≤ e.f2.length) && (letOK e.f0 e.f1 L && shps L e.f2)) := by
  show (decide (2 ≤ e.f2.length ∧ e.f2.length ≤ 400) && _) = _
  rw [show decide (2 ≤ e.f2.length ∧ e.f2.length ≤ 400) = decide (2 ≤ e.f2.length) from by rw [decide_eq_decide]; omega]
 refine Ev.step (fun k => by simp only [expr_shaped.f]; rfl) (Ev.to (Ev.if (fun _ => j0 _) (fun _ => Ev.if (fun _ => j0 _) (fun _ => j0 _))) ?_)
 rw [a0, a1, a2, shp_mk]
 unfold opKids
 generalize (letOK e.f0 e.f1 L && shps L e.f2) = z
 by_cases h1 : e.f0 = 1
 ·simp [h1]
 ·by_cases h2 : e.f0 = 2
  ·simp [h2]
  ·by_cases h3 : e.f0 = 3
   ·simp [h3]
   ·by_cases h4 : e.f0 = 4
    ·simp [h4]
    ·by_cases h5 : e.f0 = 5
     ·simp [h5]
     ·by_cases h6 : e.f0 = 6
      ·simp [h6]
      ·by_cases h7 : e.f0 = 7
       ·simp [h7]
       ·by_cases h8 : e.f0 = 8
        ·simp [h8]
        ·simp [h1, h2, h3, h4, h5, h6, h7, h8]
theorem shaped_ref (L : Int) (e : S24) : WF e → Ev (fun k => semigroupref04_shaped.f k e.f0 e.f1 e.f2 L) (shp L e) := by
 induction e using ind with
 | h e ih =>
 intro hw
 have loop : ∀ (r pre : List S24), e.f2 = pre ++ r → ∀ b, Ev (fun k => semigroupref04_shaped.l0 k L (e.f2.length : Int) b (pre.length : Int) e.f0 e.f1 e.f2) (b && shps L r) := by
  intro r
  induction r with
  | nil =>
   intro pre hp b
   exact Ev.to (Ev.step (f := fun _ => some b) (fun k => by simp only [semigroupref04_shaped.l0]; rw [hp, if_neg (not_lt_end pre)]) (Ev.now _)) (by simp [shps])
  | cons x r ihr =>
   intro pre hp b
   have hx : x ∈ e.f2 := by rw [hp]; simp
   have h1 := ih x hx (hw.kid hx)
   cases b with
   | false => exact Ev.to (Ev.step (f := fun _ => some false) (fun k => by simp only [semigroupref04_shaped.l0]; rw [hp, if_pos (lt_mid pre x r), if_neg (by decide)]) (Ev.now _)) (by simp)
   | true =>
    refine Ev.to (Ev.step (f := fun k => (semigroupref04_shaped.f k x.f0 x.f1 x.f2 L).bind fun t => semigroupref04_shaped.l0 k L (e.f2.length : Int) t ((pre ++ [x]).length : Int) e.f0 e.f1 e.f2) (fun k => ?_) (Ev.bind h1 (ihr (pre ++ [x]) (by rw [hp]; exact shift_mid pre x r) _))) (by simp [shps])
    simp only [semigroupref04_shaped.l0]
    rw [← next_mid (r := r) (x := x) (by rw [← hp]; exact hw.len), hp, if_pos (lt_mid pre x r), if_pos trivial, if_pos (ge0 _), if_pos (lt_mid pre x r), rd_mid]
 have l0 := loop e.f2 [] rfl
 have j3 : ∀ b, Ev (fun k => semigroupref04_shaped.j3 k L (e.f2.length : Int) b e.f0 e.f1 e.f2) (b && shps L e.f2) := fun b =>
  Ev.step (fun k => by simp only [semigroupref04_shaped.j3]; rfl) (l0 b)
 have j2 : ∀ b, Ev (fun k => semigroupref04_shaped.j2 k L (e.f2.length : Int) b e.f0 e.f1 e.f2) (b && (letOK e.f0 e.f1 L && shps L e.f2)) := fun b =>
  Ev.step (fun k => by simp only [semigroupref04_shaped.j2]; rfl) (Ev.to (Ev.if (fun _ => Ev.if (fun _ => Ev.if (fun _ => j3 _) (fun _ => j3 _)) (fun _ => j3 _)) (fun _ => Ev.if (fun _ => j3 _) (fun _ => j3 _))) (by
   unfold letOK
   generalize shps L e.f2 = z
   cases b with
   | false => by_cases h3 : e.f0 = 3 <;> simp [h3]
   | true =>
    by_cases h3 : e.f0 = 3
    ·by_cases h4 : e.f1 ≥ 0
     ·simp [h3, h4]
     ·simp [h3, h4] <;> (try (intros; omega))
    ·simp [h3]; by_cases h0 : e.f1 = 0 <;> simp [h0]))
 let z := (letOK e.f0 e.f1 L && shps L e.f2)
 have j1 : ∀ b c, Ev (fun k => semigroupref04_shaped.j1 k L (e.f2.length : Int) b e.f0 c e.f0 e.f1 e.f2) ((if c = true then decide (e.f2.length = 0) else if e.f0 = 7 ∨ e.f0 = 8 then decide (e.f2.length = 1) else (b && decide (2 ≤ e.f2.length))) && z) := fun b c =>
  Ev.step (fun k => by simp only [semigroupref04_shaped.j1]; rfl) (Ev.to (Ev.if (fun _ => j2 _) (fun _ => Ev.if (fun _ => j2 _) (fun _ => Ev.if (fun _ => j2 _) (fun _ => Ev.if (fun _ => j2 _) (fun _ => j2 _))))) (by
   have e0 : ((e.f2.length : Int) == 0) = decide (e.f2.length = 0) := by rw [Bool.eq_iff_iff]; simp; try omega
   have e1 : ((e.f2.length : Int) == 1) = decide (e.f2.length = 1) := by rw [Bool.eq_iff_iff]; simp; try omega
   have e2 : decide ((e.f2.length : Int) ≥ 2) = decide (2 ≤ e.f2.length) := by rw [decide_eq_decide]; omega
   rw [e0, e1, e2]
   show _ = (_ && (letOK e.f0 e.f1 L && shps L e.f2))
   generalize (letOK e.f0 e.f1 L && shps L e.f2) = z
   cases c with
   | true => simp
   | false =>
    by_cases h7 : e.f0 = 7
    ·simp [h7]
    ·by_cases h8 : e.f0 = 8
     ·simp [h8]
     ·cases b <;> simp [h7, h8]))
 have j0 : ∀ b, Ev (fun k => semigroupref04_shaped.j0 k L (e.f2.length : Int) b e.f0 e.f1 e.f2) ((if e.f0 = 1 ∨ e.f0 = 2 ∨ e.f0 = 3 then decide (e.f2.length = 0) else if e.f0 = 7 ∨ e.f0 = 8 then decide (e.f2.length = 1) else (b && decide (2 ≤ e.f2.length))) && z) := fun b =>
  Ev.step (fun k => by simp only [semigroupref04_shaped.j0]; rfl) (Ev.to (Ev.if (fun _ => j1 _ _) (fun _ => Ev.if (fun _ => j1 _ _) (fun _ => j1 _ _))) (by
   by_cases h1 : e.f0 = 1
   ·simp [h1]
   ·by_cases h2 : e.f0 = 2
    ·simp [h2]
    ·by_cases h3 : e.f0 = 3
     ·simp [h3]
     ·simp [h1, h2, h3]))
 refine Ev.step (fun k => by simp only [semigroupref04_shaped.f]; rfl) (Ev.to (Ev.if (fun _ => j0 _) (fun _ => j0 _)) ?_)
 rw [shp_mk]
 unfold opKids
 show _ = (_ && z)
 generalize z = z
 by_cases h1 : e.f0 = 1
 ·simp [h1]
 ·by_cases h2 : e.f0 = 2
  ·simp [h2]
  ·by_cases h3 : e.f0 = 3
   ·simp [h3]
   ·by_cases h4 : e.f0 = 4
    ·simp [h4]
    ·by_cases h5 : e.f0 = 5
     ·simp [h5]
     ·by_cases h6 : e.f0 = 6
      ·simp [h6]
      ·by_cases h7 : e.f0 = 7
       ·simp [h7]
       ·by_cases h8 : e.f0 = 8
        ·simp [h8]
        ·simp [h1, h2, h3, h4, h5, h6, h7, h8]
         intro a b; omega
def validate (L : Int) (e : S24) : Int := if L < 1 ∨ 6 < L then 1 else if ¬ WithinP e then 3 else if shp L e = false then 4 else 0
theorem validate_prog (e : S24) (hw : WF e) (L : Int) : Ev (fun k => expr_Validate.f k e.f0 e.f1 e.f2 L) (validate L e) := by
 have j0 : ∀ b, Ev (fun k => expr_Validate.j0 k L b e.f0 e.f1 e.f2) (if b = true then 1 else if ¬ WithinP e then 3 else if shp L e = false then 4 else 0) := fun b =>
  Ev.step (fun k => by simp only [expr_Validate.j0]; rfl) (Ev.if (fun _ => Ev.now _) (fun _ => Ev.bind (within_prog e hw) (by
   by_cases h : WithinP e
   ·simp only [decide_eq_true h, h, if_true, not_true, if_false]
    refine Ev.bind (shaped_prog L e hw h.1) ?_
    cases shp L e
    ·simp; exact Ev.now _
    ·simp; exact Ev.now _
   ·simp only [decide_eq_false h, h]
    simp; exact Ev.now _)))
 refine Ev.congr (f := fun k => if L < 1 then expr_Validate.j0 k L true e.f0 e.f1 e.f2 else expr_Validate.j0 k L (decide (L > 6)) e.f0 e.f1 e.f2) (fun k => by simp only [expr_Validate.f]) (Ev.to (Ev.if (fun _ => j0 _) (fun _ => j0 _)) ?_)
 unfold validate
 by_cases h1 : L < 1
 ·simp [h1]
 ·by_cases h2 : L > 6
  ·simp [h1, h2]
  ·simp [h1, h2]
theorem validate_ref (e : S24) (hw : WF e) (L : Int) : Ev (fun k => semigroupref04_Validate.f k e.f0 e.f1 e.f2 L) (validate L e) := by
 have hm : semigroupref01_MayLetters.f L = some (decide (1 ≤ L ∧ L ≤ 6)) := by
  unfold semigroupref01_MayLetters.f
  by_cases h : L ≥ 1
  ·rw [if_pos h]; congr 1; rw [decide_eq_decide]; omega
  ·rw [if_neg h]; congr 1; rw [eq_comm, decide_eq_false_iff_not]; omega
 refine Ev.congr (fun k => by simp only [semigroupref04_Validate.f, hm]; rfl) ?_
 unfold validate
 by_cases h1 : 1 ≤ L ∧ L ≤ 6
 ·have h2 : ¬ (L < 1 ∨ 6 < L) := by omega
  simp only [decide_eq_true h1, Option.bind_some, if_true, if_neg h2]
  refine Ev.bind (within_ref e hw) ?_
  by_cases h : WithinP e
  ·simp only [decide_eq_true h, h, if_true, not_true, if_false]
   refine Ev.bind (shaped_ref L e hw) ?_
   cases shp L e
   ·simp; exact Ev.now _
   ·simp; exact Ev.now _
  ·simp only [decide_eq_false h, h]
   simp; exact Ev.now _
 ·have h2 : (L < 1 ∨ 6 < L) := by omega
  simp only [decide_eq_false h1, Option.bind_some, if_pos h2]
  simp; exact Ev.now _
def Vld (e : S24) : Prop := WithinP e ∧ shp 6 e = true
instance (e : S24) : Decidable (Vld e) := by unfold Vld; infer_instance
theorem validate_vld (e : S24) : (validate 6 e == 0) = decide (Vld e) := by
 unfold validate Vld
 by_cases h : WithinP e
 ·by_cases hs : shp 6 e = true
  ·simp [h, hs]
  ·simp [h, hs]
 ·simp [h]
theorem valid_prog (e : S24) (hw : WF e) : Ev (fun k => expr_valid.f k e.f0 e.f1 e.f2) (decide (Vld e)) :=
 Ev.congr (f := fun k => (expr_Validate.f k e.f0 e.f1 e.f2 6).bind fun t => some (t == 0)) (fun k => by simp only [expr_valid.f]) (Ev.bind (f := fun k t => some (t == 0)) (validate_prog e hw 6) (Ev.to (Ev.now _) (validate_vld e)))
theorem valid_ref (e : S24) (hw : WF e) : Ev (fun k => semigroupref04_Valid.f k e.f0 e.f1 e.f2) (decide (Vld e)) :=
 Ev.congr (f := fun k => (semigroupref04_Validate.f k e.f0 e.f1 e.f2 6).bind fun t => some (t == 0)) (fun k => by simp only [semigroupref04_Valid.f]) (Ev.bind (f := fun k t => some (t == 0)) (validate_ref e hw 6) (Ev.to (Ev.now _) (validate_vld e)))
end Go.Proofs.Ytjofkebiacaciaa.T04
end
section
namespace Go.Proofs.Ytjofkebiacaciaa.Pure
open Go Go.RowKit Go.Proofs.Ytjofkebiacaciaa.PAll Go.Proofs.YtjofkebiacaciaaW.PrintWords Go.Proofs.YtjofkebiacaciaaW.PrintLast Go.Proofs.Ytjofkebiacaciaa.AllRead24 Go.Proofs.Ytjofkebiacaciaa.T04
set_option linter.all false
theorem ExprValidates (e : S24) (a : Int) (he : WF e) (_ : (Lit.int .i64 a).wf = true) : ∃ k, semigrouplaw04_ExprValidates.f k e.f0 e.f1 e.f2 a = some true := by
 refine Ev.rounds (g := fun k => semigrouplaw04_ExprValidates.f k e.f0 e.f1 e.f2 a) ?_
 refine Ev.congr (f := fun k => (expr_Validate.f k e.f0 e.f1 e.f2 a).bind fun t => (semigroupref04_Validate.f k e.f0 e.f1 e.f2 a).bind fun u => if t = u then ((semigrouplaw04_awake.f k).bind fun z => some z) else some false) (fun k => by simp only [semigrouplaw04_ExprValidates.f]) ?_
 refine Ev.bind (validate_prog e he a) (Ev.bind (validate_ref e he a) ?_)
 simp only [if_true]
 exact Ev.bind (f := fun _ z => some z) awake_ev (Ev.now _)
end Go.Proofs.Ytjofkebiacaciaa.Pure
end
