/- The functions that the laws of this seat reach, a proof for each that the Go code comes to them, and the plain laws; merged. Conditions: none beside those of the given statements. -/
import Derived.Test.YtjofkebiacaciaaMc14
namespace Go.Proofs.Ytjofkebiacaciaa.PAll
open Go.RowKit Go.Proofs.YtjofkebiacaciaaW.PrintWords Go.Proofs.YtjofkebiacaciaaW.PrintLast Go.Proofs.YtjofkebiacaciaaW.PrintMore
attribute [local go_sem] max2_int min2_int max_two min_two max_three min_three max_four min_four
set_option linter.unusedVariables false
set_option linter.unusedSimpArgs false
mutual
def semigroupref04_Nullable.l0 : Nat → Bool → Bool → List (S24) → Int → Int → Int → Int → List (S24) → Option (Bool)
 | 0, _, _, _, _, _, _, _, _ => none
 | k + 1, x3, x4, x9, x10, x11, x420000, x420001, x420002 => if x11 < x10 then (if 0 ≤ x11 then (if x11 < (x9.length : Int) then ((semigroupref04_Nullable.f k ((rd_T24 x9 x11).f0) ((rd_T24 x9 x11).f1) ((rd_T24 x9 x11).f2)).bind fun t422 => (if x3 = true then (if x4 = true then (semigroupref04_Nullable.l0 k t422 true x9 x10 (wrap64 (x11 + 1)) x420000 x420001 x420002) else (semigroupref04_Nullable.l0 k t422 t422 x9 x10 (wrap64 (x11 + 1)) x420000 x420001 x420002)) else (if x4 = true then (semigroupref04_Nullable.l0 k false true x9 x10 (wrap64 (x11 + 1)) x420000 x420001 x420002) else (semigroupref04_Nullable.l0 k false t422 x9 x10 (wrap64 (x11 + 1)) x420000 x420001 x420002)))) else (none)) else (none)) else (if x420000 = 2 then (semigroupref04_Nullable.j1 k x3 x4 x420000 (x420000 == 2)) else (semigroupref04_Nullable.j1 k x3 x4 x420000 (x420000 == 7)))
def semigroupref04_Nullable.j1 : Nat → Bool → Bool → Int → Bool → Option (Bool)
 | 0, _, _, _, _ => none
 | k + 1, x3, x4, x27, x28 => if x28 = true then (some true) else (if x27 = 4 then (some x4) else (if x27 = 5 then (semigroupref04_Nullable.j2 k x3 x4 x27 (x27 == 5)) else (semigroupref04_Nullable.j2 k x3 x4 x27 (x27 == 6))))
def semigroupref04_Nullable.j2 : Nat → Bool → Bool → Int → Bool → Option (Bool)
 | 0, _, _, _, _ => none
 | k + 1, x3, x4, x27, x34 => if x34 = true then (some x3) else (if x27 = 8 then (some (!x4)) else (some false))
def semigroupref04_Nullable.f : Nat → Int → Int → List (S24) → Option (Bool)
 | 0, _, _, _ => none
 | k + 1, a0_0, a0_1, l0_2 => semigroupref04_Nullable.l0 k true false l0_2 (l0_2.length : Int) 0 a0_0 a0_1 l0_2
end
theorem semigroupref04_Nullable.mono_l : ∀ k, (∀ y0 y1 y2, LeO (semigroupref04_Nullable.f k y0 y1 y2) (semigroupref04_Nullable.f (k + 1) y0 y1 y2)) ∧ (∀ y0 y1 y2 y3 y4 y5 y6 y7, LeO (semigroupref04_Nullable.l0 k y0 y1 y2 y3 y4 y5 y6 y7) (semigroupref04_Nullable.l0 (k + 1) y0 y1 y2 y3 y4 y5 y6 y7)) ∧ (∀ y0 y1 y2 y3, LeO (semigroupref04_Nullable.j1 k y0 y1 y2 y3) (semigroupref04_Nullable.j1 (k + 1) y0 y1 y2 y3)) ∧ (∀ y0 y1 y2 y3, LeO (semigroupref04_Nullable.j2 k y0 y1 y2 y3) (semigroupref04_Nullable.j2 (k + 1) y0 y1 y2 y3))
 | 0 => ⟨fun _ _ _ r h => by simp [semigroupref04_Nullable.f] at h, fun _ _ _ _ _ _ _ _ r h => by simp [semigroupref04_Nullable.l0] at h, fun _ _ _ _ r h => by simp [semigroupref04_Nullable.j1] at h, fun _ _ _ _ r h => by simp [semigroupref04_Nullable.j2] at h⟩
 | k + 1 => by
  obtain ⟨ih0, ih1, ih2, ih3⟩ := semigroupref04_Nullable.mono_l k
  refine ⟨?_, ?_, ?_, ?_⟩
  ·intro y0 y1 y2
   unfold semigroupref04_Nullable.f
   repeat' first
   | (with_reducible exact ih0 _ _ _)
   | (with_reducible exact ih1 _ _ _ _ _ _ _ _)
   | (with_reducible exact ih2 _ _ _ _)
   | (with_reducible exact ih3 _ _ _ _)
   | (with_reducible exact LeO.refl _)
   | (with_reducible exact LeO.none _)
   | (with_reducible refine LeO.ite ?_ ?_)
   | (with_reducible refine LeO.bind ?_ (fun _ => ?_))
   | exact ih0 _ _ _
   | exact ih1 _ _ _ _ _ _ _ _
   | exact ih2 _ _ _ _
   | exact ih3 _ _ _ _
   | exact LeO.none _
   | refine LeO.ite ?_ ?_
   | refine LeO.bind ?_ (fun _ => ?_)
  ·intro y0 y1 y2 y3 y4 y5 y6 y7
   unfold semigroupref04_Nullable.l0
   repeat' first
   | (with_reducible exact ih0 _ _ _)
   | (with_reducible exact ih1 _ _ _ _ _ _ _ _)
   | (with_reducible exact ih2 _ _ _ _)
   | (with_reducible exact ih3 _ _ _ _)
   | (with_reducible exact LeO.refl _)
   | (with_reducible exact LeO.none _)
   | (with_reducible refine LeO.ite ?_ ?_)
   | (with_reducible refine LeO.bind ?_ (fun _ => ?_))
   | exact ih0 _ _ _
   | exact ih1 _ _ _ _ _ _ _ _
   | exact ih2 _ _ _ _
   | exact ih3 _ _ _ _
   | exact LeO.none _
   | refine LeO.ite ?_ ?_
   | refine LeO.bind ?_ (fun _ => ?_)
  ·intro y0 y1 y2 y3
   unfold semigroupref04_Nullable.j1
   repeat' first
   | (with_reducible exact ih0 _ _ _)
   | (with_reducible exact ih1 _ _ _ _ _ _ _ _)
   | (with_reducible exact ih2 _ _ _ _)
   | (with_reducible exact ih3 _ _ _ _)
   | (with_reducible exact LeO.refl _)
   | (with_reducible exact LeO.none _)
   | (with_reducible refine LeO.ite ?_ ?_)
   | (with_reducible refine LeO.bind ?_ (fun _ => ?_))
   | exact ih0 _ _ _
   | exact ih1 _ _ _ _ _ _ _ _
   | exact ih2 _ _ _ _
   | exact ih3 _ _ _ _
   | exact LeO.none _
   | refine LeO.ite ?_ ?_
   | refine LeO.bind ?_ (fun _ => ?_)
  ·intro y0 y1 y2 y3
   unfold semigroupref04_Nullable.j2
   repeat' first
   | (with_reducible exact ih0 _ _ _)
   | (with_reducible exact ih1 _ _ _ _ _ _ _ _)
   | (with_reducible exact ih2 _ _ _ _)
   | (with_reducible exact ih3 _ _ _ _)
   | (with_reducible exact LeO.refl _)
   | (with_reducible exact LeO.none _)
   | (with_reducible refine LeO.ite ?_ ?_)
   | (with_reducible refine LeO.bind ?_ (fun _ => ?_))
   | exact ih0 _ _ _
   | exact ih1 _ _ _ _ _ _ _ _
   | exact ih2 _ _ _ _
   | exact ih3 _ _ _ _
   | exact LeO.none _
   | refine LeO.ite ?_ ?_
   | refine LeO.bind ?_ (fun _ => ?_)
theorem semigroupref04_Nullable.mono : ∀ a0 a1 a2 k, LeO (semigroupref04_Nullable.f k a0 a1 a2) (semigroupref04_Nullable.f (k + 1) a0 a1 a2) := by
 intro a0 a1 a2 k
 obtain ⟨ih0, ih1, ih2, ih3⟩ := semigroupref04_Nullable.mono_l k
 exact ih0 a0 a1 a2
set_option maxHeartbeats 8000000 in
set_option maxRecDepth 100000 in
theorem semigroupref04_Nullable.calls (k : Nat) : ∀ (a0_0 : Int) (a0_1 : Int) (A0_2 : Option Addr) (c0_2 : Nat) (l0_2 : List (S24)) (r : Bool) (w : World) (hr0_2 : Kd.C k24 w A0_2 l0_2.length l0_2) (hc0_2 : l0_2.length ≤ c0_2) (h : semigroupref04_Nullable.f k a0_0 a0_1 l0_2 = some r),
  Calls Try.prog 34 #[.agg #[.int .i64 a0_0, .int .i64 a0_1, .slice A0_2 l0_2.length c0_2]] w fun e w' => e = .returned (.bool r) ∧ Below w.heap.size w w' := by
 induction k using Nat.strongRecOn with
 | _ k ih =>
 intro a0_0 a0_1 A0_2 c0_2 l0_2 r w hr0_2 hc0_2 h
 cases k with
 | zero => exact absurd h (by simp [semigroupref04_Nullable.f])
 | succ k =>
 simp only [semigroupref04_Nullable.f] at h
 have hu24 := Try.underlying24
 have HR0_2 := Aside0.mk hr0_2
 have HC0_2 := Aside0.mk hc0_2
 clear hr0_2 hc0_2
 have HB := Aside0.mk (Below.refl w.heap.size w)
 have H : (semigroupref04_Nullable.l0 k true false l0_2 (l0_2.length : Int) 0 a0_0 a0_1 l0_2) = some r := h
 clear h
 have H' := Aside0.mk H
 clear H
 go_enter Try.func34, Try.ntmps34
 go_wp2_with (first | ((with_reducible refine gate_dst (N := 1) rfl ?_); refine box_event ?hg (N := 1) ?hd (cs := #[.int .i64 a0_0, .int .i64 a0_1, .slice A0_2 l0_2.length c0_2]) (t := 24) ?hr ?_; (case hd => rfl); (case hg => rfl); (case hr => first | (go_simp; done) | (go_simp; rfl)); intro gb419 hg w2 hbox hb; have n0_ := Aside0.mk (below_step (bB) hb); have n1_ := Aside0.mk (hbox); have n2_ := Aside0.mk ((by rw [hg]; exact (below_size (bB)) : w.heap.size ≤ gb419)); have n3_ := Aside0.mk ((by rw [hg]; exact (below_size (bB)) : w.heap.size ≤ gb419)); clear HB; have HB := n0_; have BK419 := n1_; have GW419 := n2_; have GE419 := n3_; clear n0_ n1_ n2_ n3_; clear hb hbox hg; have hcz3_0 : w2.cell? ⟨gb419, 0, none⟩ = some (.int .i64 a0_0) := (blk_cell BK419.out 0).trans rfl; have hcz3_1 : w2.cell? ⟨gb419, 1, none⟩ = some (.int .i64 a0_1) := (blk_cell BK419.out 1).trans rfl; have hcz3_2 : w2.cell? ⟨gb419, 2, none⟩ = some (.slice A0_2 l0_2.length c0_2) := (blk_cell BK419.out 2).trans rfl; have hfz3_0 := blk_frozen BK419.out 0; have hfz3_1 := blk_frozen BK419.out 1; have hfz3_2 := blk_frozen BK419.out 2))
 go_loopg [3, 4, 11] k (fun kq v3 v4 v11 w' => ∃ (x3_1 : Bool) (x4_1 : Bool) (x11_1 : Int), v3 = .bool x3_1 ∧ v4 = .bool x4_1 ∧ v11 = .int .i64 x11_1 ∧ Aside0 (semigroupref04_Nullable.l0 kq x3_1 x4_1 l0_2 (l0_2.length : Int) x11_1 a0_0 a0_1 l0_2 = some r) ∧ Aside0 (kq ≤ k) ∧ Aside0 (w'.heap[gb419]? = some (.cells #[.int .i64 a0_0, .int .i64 a0_1, (.slice A0_2 l0_2.length c0_2)] 24 (0, 0))) ∧ Aside0 (Below w.heap.size w w'))
 case atStart => exact ⟨(true), (false), (0), (by first | rfl | (simp; done) | (simp [*]; done)), (by first | rfl | (simp; done) | (simp [*]; done)), (by first | rfl | (simp; done) | (simp [*]; done)), H', ⟨Nat.le_refl _⟩, ⟨bK⟩, ⟨bB⟩⟩
 case round =>
  clear H'
  try clear p2
  try clear c3
  try clear hcz3_0
  try clear hcz3_1
  try clear hcz3_2
  try clear hfz3_0
  try clear hfz3_1
  try clear hfz3_2
  obtain ⟨x3_1, x4_1, x11_1, rfl, rfl, rfl, HA, HK1, BK419, HB⟩ := hrel
  cases gk with
  | zero => exact absurd HA.out (by simp [semigroupref04_Nullable.l0])
  | succ k1 =>
   have H := HA.out
   clear HA
   simp only [semigroupref04_Nullable.l0] at H
   by_cases c4 : x11_1 < (l0_2.length : Int)
   ·rw [if_pos c4] at H
    have c4b0 : decide (x11_1 < (l0_2.length : Int)) = true := decide_eq_true c4
    clear c4
    by_cases c5 : 0 ≤ x11_1
    ·rw [if_pos c5] at H
     have c5b0 : decide (0 ≤ x11_1) = true := decide_eq_true c5
     clear c5
     by_cases c6 : x11_1 < (l0_2.length : Int)
     ·rw [if_pos c6] at H
      have c6b0 : decide (x11_1 < (l0_2.length : Int)) = true := decide_eq_true c6
      clear c6
      replace H := Option.bind_eq_some_iff.mp H
      obtain ⟨t422, A70, H⟩ := H
      replace H : (if x3_1 = true then (if x4_1 = true then (semigroupref04_Nullable.l0 k1 t422 true l0_2 (l0_2.length : Int) (wrap64 (x11_1 + 1)) a0_0 a0_1 l0_2) else (semigroupref04_Nullable.l0 k1 t422 t422 l0_2 (l0_2.length : Int) (wrap64 (x11_1 + 1)) a0_0 a0_1 l0_2)) else (if x4_1 = true then (semigroupref04_Nullable.l0 k1 false true l0_2 (l0_2.length : Int) (wrap64 (x11_1 + 1)) a0_0 a0_1 l0_2) else (semigroupref04_Nullable.l0 k1 false t422 l0_2 (l0_2.length : Int) (wrap64 (x11_1 + 1)) a0_0 a0_1 l0_2))) = some r := H
      have A7 := Aside0.mk A70
      clear A70
      by_cases c8 : x3_1 = true
      ·subst c8
       have H1 : (if x4_1 = true then (semigroupref04_Nullable.l0 k1 t422 true l0_2 (l0_2.length : Int) (wrap64 (x11_1 + 1)) a0_0 a0_1 l0_2) else (semigroupref04_Nullable.l0 k1 t422 t422 l0_2 (l0_2.length : Int) (wrap64 (x11_1 + 1)) a0_0 a0_1 l0_2)) = some r := by rw [if_pos rfl] at H; exact H
       clear H
       have H := H1
       clear H1
       by_cases c9 : x4_1 = true
       ·subst c9
        have H1 : (semigroupref04_Nullable.l0 k1 t422 true l0_2 (l0_2.length : Int) (wrap64 (x11_1 + 1)) a0_0 a0_1 l0_2) = some r := by rw [if_pos rfl] at H; exact H
        clear H
        have H := H1
        clear H1
        have H' := Aside0.mk H
        clear H
        have p420 : 0 ≤ (x11_1 : Int) := of_decide_eq_true (by first | (with_reducible assumption) | assumption)
        have q420 : x11_1 < (l0_2.length : Int) := of_decide_eq_true (by first | (with_reducible assumption) | assumption)
        obtain ⟨ad420, A420_2, c420_2, e420, hx420_0, hx420_1, hx420_2, hl420_2, hi420_2⟩ := at_T24 HR0_2.out x11_1 p420 q420
        cases e420
        replace hx420_0 := (HB.out.cell (World.block_lt_of_cell? w _ hx420_0)).trans hx420_0
        replace hx420_1 := (HB.out.cell (World.block_lt_of_cell? w _ hx420_1)).trans hx420_1
        replace hx420_2 := (HB.out.cell (World.block_lt_of_cell? w _ hx420_2)).trans hx420_2
        have HR420_2 := Aside0.mk hi420_2
        have HC420_2 := Aside0.mk hl420_2
        clear hi420_2 hl420_2
        replace p420 := eq_true p420
        replace q420 := eq_true q420
        go_wp2_with (first | ((with_reducible refine gate_dst (N := 6) rfl ?_); refine box_event ?hg (N := 6) ?hd (cs := #[.int .i64 0, .int .i64 0, .slice none 0 0]) (t := 24) ?hr ?_; (case hd => rfl); (case hg => rfl); (case hr => first | (go_simp; done) | (go_simp; rfl)); intro gb421 hg w10 hbox hb; have n0_ := Aside0.mk (blk_below (g := gb419) (o := .cells #[.int .i64 a0_0, .int .i64 a0_1, .slice (some ad420) l0_2.length c0_2] 24 (0, 0)) (bK) hb); have n1_ := Aside0.mk (below_step (bB) hb); have n2_ := Aside0.mk (hbox); have n3_ := Aside0.mk ((by rw [hg]; exact (below_size (bB)) : w.heap.size ≤ gb421)); have n4_ := Aside0.mk ((by rw [hg]; exact (below_size (bB)) : w.heap.size ≤ gb421)); have n5_ := Aside0.mk ((by rw [hg]; exact Nat.ne_of_lt (blk_lt (g := gb419) (o := .cells #[.int .i64 a0_0, .int .i64 a0_1, .slice (some ad420) l0_2.length c0_2] 24 (0, 0)) (bK)) : gb419 ≠ gb421)); have n6_ := Aside0.mk ((by rw [hg]; exact Nat.ne_of_gt (blk_lt (g := gb419) (o := .cells #[.int .i64 a0_0, .int .i64 a0_1, .slice (some ad420) l0_2.length c0_2] 24 (0, 0)) (bK)) : gb421 ≠ gb419)); clear BK419; clear HB; have BK419 := n0_; have HB := n1_; have BK421 := n2_; have GW421 := n3_; have GE421 := n4_; have NB419_421 := n5_; have NB421_419 := n6_; clear n0_ n1_ n2_ n3_ n4_ n5_ n6_; clear hb hbox hg; have hnb11 := NB421_419.out; have hnc11 := NB419_421.out; have hcz12_0 : w10.cell? ⟨gb421, 0, none⟩ = some (.int .i64 0) := (blk_cell BK421.out 0).trans rfl; have hcz12_1 : w10.cell? ⟨gb421, 1, none⟩ = some (.int .i64 0) := (blk_cell BK421.out 1).trans rfl; have hcz12_2 : w10.cell? ⟨gb421, 2, none⟩ = some (.slice none 0 0) := (blk_cell BK421.out 2).trans rfl; have hfz12_0 := blk_frozen BK421.out 0; have hfz12_1 := blk_frozen BK421.out 1; have hfz12_2 := blk_frozen BK421.out 2) | ((with_reducible refine gate_callee (f := 34) rfl ?_); refine goesL_ (some 16) rfl rfl Try.func34 (by kernel_rfl) rfl #[.agg #[.int .i64 ((rd_T24 l0_2 x11_1).f0), .int .i64 ((rd_T24 l0_2 x11_1).f1), .slice A420_2 ((rd_T24 l0_2 x11_1).f2).length c420_2]] rfl (by (try simp only [List.map_toArray, List.map_cons, List.map_nil]); first | done | rfl | (simp only [List.length_drop, List.length_take]; rfl) | (simp only [Int.ofNat_lt, Int.ofNat_le]; rfl)) ?_; (with_reducible refine (ih k1 (by have := HK1.out; omega) ((rd_T24 l0_2 x11_1).f0) ((rd_T24 l0_2 x11_1).f1) _ _ ((rd_T24 l0_2 x11_1).f2) t422 _ ?side1 ?side2 A7.out).mono ?_); (case side1 => exact Kd.C_below HR420_2.out (bB)); (case side2 => exact HC420_2.out); rintro e w13 ⟨rfl, hb⟩; refine ⟨_, rfl, ?_⟩; have n0_ := Aside0.mk (blk_below (g := gb419) (o := .cells #[.int .i64 a0_0, .int .i64 a0_1, .slice (some ad420) l0_2.length c0_2] 24 (0, 0)) (by (with_reducible repeat (first | refine blk_drewN ?_ _ | refine blk_drew ?_ | refine blk_alloc ?_ _)); refine blk_far ?_ NB419_421.out _; (with_reducible repeat (first | refine blk_drewN ?_ _ | refine blk_drew ?_ | refine blk_alloc ?_ _)); refine blk_far ?_ NB419_421.out _; (with_reducible repeat (first | refine blk_drewN ?_ _ | refine blk_drew ?_ | refine blk_alloc ?_ _)); refine blk_far ?_ NB419_421.out _; (with_reducible repeat (first | refine blk_drewN ?_ _ | refine blk_drew ?_ | refine blk_alloc ?_ _)); exact BK419.out) hb); have n1_ := Aside0.mk (blk_below (g := gb421) (o := .cells #[.int .i64 ((rd_T24 l0_2 x11_1).f0), .int .i64 ((rd_T24 l0_2 x11_1).f1), .slice A420_2 ((rd_T24 l0_2 x11_1).f2).length c420_2] 24 (0, 0)) (by (with_reducible repeat (first | refine blk_drewN ?_ _ | refine blk_drew ?_ | refine blk_alloc ?_ _)); refine blk_put (cs := #[.int .i64 ((rd_T24 l0_2 x11_1).f0), .int .i64 ((rd_T24 l0_2 x11_1).f1), .slice none 0 0]) ?_ 2 _ rfl; (with_reducible repeat (first | refine blk_drewN ?_ _ | refine blk_drew ?_ | refine blk_alloc ?_ _)); refine blk_put (cs := #[.int .i64 ((rd_T24 l0_2 x11_1).f0), .int .i64 0, .slice none 0 0]) ?_ 1 _ rfl; (with_reducible repeat (first | refine blk_drewN ?_ _ | refine blk_drew ?_ | refine blk_alloc ?_ _)); refine blk_put (cs := #[.int .i64 0, .int .i64 0, .slice none 0 0]) ?_ 0 _ rfl; (with_reducible repeat (first | refine blk_drewN ?_ _ | refine blk_drew ?_ | refine blk_alloc ?_ _)); exact BK421.out) hb); have n2_ := Aside0.mk (below_step (bB) hb); clear BK419; clear BK421; clear HB; have BK419 := n0_; have BK421 := n1_; have HB := n2_; clear n0_ n1_ n2_; (try clear hb); (try clear hb2); (try clear hk); (try clear hi)))
        (first | go_roundg k1 | ((simp only [add_plain] at *); go_roundg k1))
        case measure => have := HK1.out; omega
        case rel => exact ⟨(t422), (true), (wrap64 (x11_1 + 1)), (by first | rfl | (simp; done) | (simp [*]; done)), (by first | rfl | (simp; done) | (simp [*]; done)), (by first | rfl | (simp; done) | (simp [*]; done)), H', ⟨by have := HK1.out; omega⟩, ⟨bK⟩, ⟨bB⟩⟩
       ·replace c9 := Bool.eq_false_iff.mpr c9
        subst c9
        have H1 : (semigroupref04_Nullable.l0 k1 t422 t422 l0_2 (l0_2.length : Int) (wrap64 (x11_1 + 1)) a0_0 a0_1 l0_2) = some r := by rw [if_neg (show ¬ (false = true) by decide)] at H; exact H
        clear H
        have H := H1
        clear H1
        have H' := Aside0.mk H
        clear H
        have p420 : 0 ≤ (x11_1 : Int) := of_decide_eq_true (by first | (with_reducible assumption) | assumption)
        have q420 : x11_1 < (l0_2.length : Int) := of_decide_eq_true (by first | (with_reducible assumption) | assumption)
        obtain ⟨ad420, A420_2, c420_2, e420, hx420_0, hx420_1, hx420_2, hl420_2, hi420_2⟩ := at_T24 HR0_2.out x11_1 p420 q420
        cases e420
        replace hx420_0 := (HB.out.cell (World.block_lt_of_cell? w _ hx420_0)).trans hx420_0
        replace hx420_1 := (HB.out.cell (World.block_lt_of_cell? w _ hx420_1)).trans hx420_1
        replace hx420_2 := (HB.out.cell (World.block_lt_of_cell? w _ hx420_2)).trans hx420_2
        have HR420_2 := Aside0.mk hi420_2
        have HC420_2 := Aside0.mk hl420_2
        clear hi420_2 hl420_2
        replace p420 := eq_true p420
        replace q420 := eq_true q420
        go_wp2_with (first | ((with_reducible refine gate_dst (N := 6) rfl ?_); refine box_event ?hg (N := 6) ?hd (cs := #[.int .i64 0, .int .i64 0, .slice none 0 0]) (t := 24) ?hr ?_; (case hd => rfl); (case hg => rfl); (case hr => first | (go_simp; done) | (go_simp; rfl)); intro gb421 hg w14 hbox hb; have n0_ := Aside0.mk (blk_below (g := gb419) (o := .cells #[.int .i64 a0_0, .int .i64 a0_1, .slice (some ad420) l0_2.length c0_2] 24 (0, 0)) (bK) hb); have n1_ := Aside0.mk (below_step (bB) hb); have n2_ := Aside0.mk (hbox); have n3_ := Aside0.mk ((by rw [hg]; exact (below_size (bB)) : w.heap.size ≤ gb421)); have n4_ := Aside0.mk ((by rw [hg]; exact (below_size (bB)) : w.heap.size ≤ gb421)); have n5_ := Aside0.mk ((by rw [hg]; exact Nat.ne_of_lt (blk_lt (g := gb419) (o := .cells #[.int .i64 a0_0, .int .i64 a0_1, .slice (some ad420) l0_2.length c0_2] 24 (0, 0)) (bK)) : gb419 ≠ gb421)); have n6_ := Aside0.mk ((by rw [hg]; exact Nat.ne_of_gt (blk_lt (g := gb419) (o := .cells #[.int .i64 a0_0, .int .i64 a0_1, .slice (some ad420) l0_2.length c0_2] 24 (0, 0)) (bK)) : gb421 ≠ gb419)); clear BK419; clear HB; have BK419 := n0_; have HB := n1_; have BK421 := n2_; have GW421 := n3_; have GE421 := n4_; have NB419_421 := n5_; have NB421_419 := n6_; clear n0_ n1_ n2_ n3_ n4_ n5_ n6_; clear hb hbox hg; have hnb15 := NB421_419.out; have hnc15 := NB419_421.out; have hcz16_0 : w14.cell? ⟨gb421, 0, none⟩ = some (.int .i64 0) := (blk_cell BK421.out 0).trans rfl; have hcz16_1 : w14.cell? ⟨gb421, 1, none⟩ = some (.int .i64 0) := (blk_cell BK421.out 1).trans rfl; have hcz16_2 : w14.cell? ⟨gb421, 2, none⟩ = some (.slice none 0 0) := (blk_cell BK421.out 2).trans rfl; have hfz16_0 := blk_frozen BK421.out 0; have hfz16_1 := blk_frozen BK421.out 1; have hfz16_2 := blk_frozen BK421.out 2) | ((with_reducible refine gate_callee (f := 34) rfl ?_); refine goesL_ (some 16) rfl rfl Try.func34 (by kernel_rfl) rfl #[.agg #[.int .i64 ((rd_T24 l0_2 x11_1).f0), .int .i64 ((rd_T24 l0_2 x11_1).f1), .slice A420_2 ((rd_T24 l0_2 x11_1).f2).length c420_2]] rfl (by (try simp only [List.map_toArray, List.map_cons, List.map_nil]); first | done | rfl | (simp only [List.length_drop, List.length_take]; rfl) | (simp only [Int.ofNat_lt, Int.ofNat_le]; rfl)) ?_; (with_reducible refine (ih k1 (by have := HK1.out; omega) ((rd_T24 l0_2 x11_1).f0) ((rd_T24 l0_2 x11_1).f1) _ _ ((rd_T24 l0_2 x11_1).f2) t422 _ ?side1 ?side2 A7.out).mono ?_); (case side1 => exact Kd.C_below HR420_2.out (bB)); (case side2 => exact HC420_2.out); rintro e w17 ⟨rfl, hb⟩; refine ⟨_, rfl, ?_⟩; have n0_ := Aside0.mk (blk_below (g := gb419) (o := .cells #[.int .i64 a0_0, .int .i64 a0_1, .slice (some ad420) l0_2.length c0_2] 24 (0, 0)) (by (with_reducible repeat (first | refine blk_drewN ?_ _ | refine blk_drew ?_ | refine blk_alloc ?_ _)); refine blk_far ?_ NB419_421.out _; (with_reducible repeat (first | refine blk_drewN ?_ _ | refine blk_drew ?_ | refine blk_alloc ?_ _)); refine blk_far ?_ NB419_421.out _; (with_reducible repeat (first | refine blk_drewN ?_ _ | refine blk_drew ?_ | refine blk_alloc ?_ _)); refine blk_far ?_ NB419_421.out _; (with_reducible repeat (first | refine blk_drewN ?_ _ | refine blk_drew ?_ | refine blk_alloc ?_ _)); exact BK419.out) hb); have n1_ := Aside0.mk (blk_below (g := gb421) (o := .cells #[.int .i64 ((rd_T24 l0_2 x11_1).f0), .int .i64 ((rd_T24 l0_2 x11_1).f1), .slice A420_2 ((rd_T24 l0_2 x11_1).f2).length c420_2] 24 (0, 0)) (by (with_reducible repeat (first | refine blk_drewN ?_ _ | refine blk_drew ?_ | refine blk_alloc ?_ _)); refine blk_put (cs := #[.int .i64 ((rd_T24 l0_2 x11_1).f0), .int .i64 ((rd_T24 l0_2 x11_1).f1), .slice none 0 0]) ?_ 2 _ rfl; (with_reducible repeat (first | refine blk_drewN ?_ _ | refine blk_drew ?_ | refine blk_alloc ?_ _)); refine blk_put (cs := #[.int .i64 ((rd_T24 l0_2 x11_1).f0), .int .i64 0, .slice none 0 0]) ?_ 1 _ rfl; (with_reducible repeat (first | refine blk_drewN ?_ _ | refine blk_drew ?_ | refine blk_alloc ?_ _)); refine blk_put (cs := #[.int .i64 0, .int .i64 0, .slice none 0 0]) ?_ 0 _ rfl; (with_reducible repeat (first | refine blk_drewN ?_ _ | refine blk_drew ?_ | refine blk_alloc ?_ _)); exact BK421.out) hb); have n2_ := Aside0.mk (below_step (bB) hb); clear BK419; clear BK421; clear HB; have BK419 := n0_; have BK421 := n1_; have HB := n2_; clear n0_ n1_ n2_; (try clear hb); (try clear hb2); (try clear hk); (try clear hi)))
        (first | go_roundg k1 | ((simp only [add_plain] at *); go_roundg k1))
        case measure => have := HK1.out; omega
        case rel => exact ⟨(t422), (t422), (wrap64 (x11_1 + 1)), (by first | rfl | (simp; done) | (simp [*]; done)), (by first | rfl | (simp; done) | (simp [*]; done)), (by first | rfl | (simp; done) | (simp [*]; done)), H', ⟨by have := HK1.out; omega⟩, ⟨bK⟩, ⟨bB⟩⟩
      ·replace c8 := Bool.eq_false_iff.mpr c8
       subst c8
       have H1 : (if x4_1 = true then (semigroupref04_Nullable.l0 k1 false true l0_2 (l0_2.length : Int) (wrap64 (x11_1 + 1)) a0_0 a0_1 l0_2) else (semigroupref04_Nullable.l0 k1 false t422 l0_2 (l0_2.length : Int) (wrap64 (x11_1 + 1)) a0_0 a0_1 l0_2)) = some r := by rw [if_neg (show ¬ (false = true) by decide)] at H; exact H
       clear H
       have H := H1
       clear H1
       by_cases c18 : x4_1 = true
       ·subst c18
        have H1 : (semigroupref04_Nullable.l0 k1 false true l0_2 (l0_2.length : Int) (wrap64 (x11_1 + 1)) a0_0 a0_1 l0_2) = some r := by rw [if_pos rfl] at H; exact H
        clear H
        have H := H1
        clear H1
        have H' := Aside0.mk H
        clear H
        have p420 : 0 ≤ (x11_1 : Int) := of_decide_eq_true (by first | (with_reducible assumption) | assumption)
        have q420 : x11_1 < (l0_2.length : Int) := of_decide_eq_true (by first | (with_reducible assumption) | assumption)
        obtain ⟨ad420, A420_2, c420_2, e420, hx420_0, hx420_1, hx420_2, hl420_2, hi420_2⟩ := at_T24 HR0_2.out x11_1 p420 q420
        cases e420
        replace hx420_0 := (HB.out.cell (World.block_lt_of_cell? w _ hx420_0)).trans hx420_0
        replace hx420_1 := (HB.out.cell (World.block_lt_of_cell? w _ hx420_1)).trans hx420_1
        replace hx420_2 := (HB.out.cell (World.block_lt_of_cell? w _ hx420_2)).trans hx420_2
        have HR420_2 := Aside0.mk hi420_2
        have HC420_2 := Aside0.mk hl420_2
        clear hi420_2 hl420_2
        replace p420 := eq_true p420
        replace q420 := eq_true q420
        go_wp2_with (first | ((with_reducible refine gate_dst (N := 6) rfl ?_); refine box_event ?hg (N := 6) ?hd (cs := #[.int .i64 0, .int .i64 0, .slice none 0 0]) (t := 24) ?hr ?_; (case hd => rfl); (case hg => rfl); (case hr => first | (go_simp; done) | (go_simp; rfl)); intro gb421 hg w19 hbox hb; have n0_ := Aside0.mk (blk_below (g := gb419) (o := .cells #[.int .i64 a0_0, .int .i64 a0_1, .slice (some ad420) l0_2.length c0_2] 24 (0, 0)) (bK) hb); have n1_ := Aside0.mk (below_step (bB) hb); have n2_ := Aside0.mk (hbox); have n3_ := Aside0.mk ((by rw [hg]; exact (below_size (bB)) : w.heap.size ≤ gb421)); have n4_ := Aside0.mk ((by rw [hg]; exact (below_size (bB)) : w.heap.size ≤ gb421)); have n5_ := Aside0.mk ((by rw [hg]; exact Nat.ne_of_lt (blk_lt (g := gb419) (o := .cells #[.int .i64 a0_0, .int .i64 a0_1, .slice (some ad420) l0_2.length c0_2] 24 (0, 0)) (bK)) : gb419 ≠ gb421)); have n6_ := Aside0.mk ((by rw [hg]; exact Nat.ne_of_gt (blk_lt (g := gb419) (o := .cells #[.int .i64 a0_0, .int .i64 a0_1, .slice (some ad420) l0_2.length c0_2] 24 (0, 0)) (bK)) : gb421 ≠ gb419)); clear BK419; clear HB; have BK419 := n0_; have HB := n1_; have BK421 := n2_; have GW421 := n3_; have GE421 := n4_; have NB419_421 := n5_; have NB421_419 := n6_; clear n0_ n1_ n2_ n3_ n4_ n5_ n6_; clear hb hbox hg; have hnb20 := NB421_419.out; have hnc20 := NB419_421.out; have hcz21_0 : w19.cell? ⟨gb421, 0, none⟩ = some (.int .i64 0) := (blk_cell BK421.out 0).trans rfl; have hcz21_1 : w19.cell? ⟨gb421, 1, none⟩ = some (.int .i64 0) := (blk_cell BK421.out 1).trans rfl; have hcz21_2 : w19.cell? ⟨gb421, 2, none⟩ = some (.slice none 0 0) := (blk_cell BK421.out 2).trans rfl; have hfz21_0 := blk_frozen BK421.out 0; have hfz21_1 := blk_frozen BK421.out 1; have hfz21_2 := blk_frozen BK421.out 2) | ((with_reducible refine gate_callee (f := 34) rfl ?_); refine goesL_ (some 16) rfl rfl Try.func34 (by kernel_rfl) rfl #[.agg #[.int .i64 ((rd_T24 l0_2 x11_1).f0), .int .i64 ((rd_T24 l0_2 x11_1).f1), .slice A420_2 ((rd_T24 l0_2 x11_1).f2).length c420_2]] rfl (by (try simp only [List.map_toArray, List.map_cons, List.map_nil]); first | done | rfl | (simp only [List.length_drop, List.length_take]; rfl) | (simp only [Int.ofNat_lt, Int.ofNat_le]; rfl)) ?_; (with_reducible refine (ih k1 (by have := HK1.out; omega) ((rd_T24 l0_2 x11_1).f0) ((rd_T24 l0_2 x11_1).f1) _ _ ((rd_T24 l0_2 x11_1).f2) t422 _ ?side1 ?side2 A7.out).mono ?_); (case side1 => exact Kd.C_below HR420_2.out (bB)); (case side2 => exact HC420_2.out); rintro e w22 ⟨rfl, hb⟩; refine ⟨_, rfl, ?_⟩; have n0_ := Aside0.mk (blk_below (g := gb419) (o := .cells #[.int .i64 a0_0, .int .i64 a0_1, .slice (some ad420) l0_2.length c0_2] 24 (0, 0)) (by (with_reducible repeat (first | refine blk_drewN ?_ _ | refine blk_drew ?_ | refine blk_alloc ?_ _)); refine blk_far ?_ NB419_421.out _; (with_reducible repeat (first | refine blk_drewN ?_ _ | refine blk_drew ?_ | refine blk_alloc ?_ _)); refine blk_far ?_ NB419_421.out _; (with_reducible repeat (first | refine blk_drewN ?_ _ | refine blk_drew ?_ | refine blk_alloc ?_ _)); refine blk_far ?_ NB419_421.out _; (with_reducible repeat (first | refine blk_drewN ?_ _ | refine blk_drew ?_ | refine blk_alloc ?_ _)); exact BK419.out) hb); have n1_ := Aside0.mk (blk_below (g := gb421) (o := .cells #[.int .i64 ((rd_T24 l0_2 x11_1).f0), .int .i64 ((rd_T24 l0_2 x11_1).f1), .slice A420_2 ((rd_T24 l0_2 x11_1).f2).length c420_2] 24 (0, 0)) (by (with_reducible repeat (first | refine blk_drewN ?_ _ | refine blk_drew ?_ | refine blk_alloc ?_ _)); refine blk_put (cs := #[.int .i64 ((rd_T24 l0_2 x11_1).f0), .int .i64 ((rd_T24 l0_2 x11_1).f1), .slice none 0 0]) ?_ 2 _ rfl; (with_reducible repeat (first | refine blk_drewN ?_ _ | refine blk_drew ?_ | refine blk_alloc ?_ _)); refine blk_put (cs := #[.int .i64 ((rd_T24 l0_2 x11_1).f0), .int .i64 0, .slice none 0 0]) ?_ 1 _ rfl; (with_reducible repeat (first | refine blk_drewN ?_ _ | refine blk_drew ?_ | refine blk_alloc ?_ _)); refine blk_put (cs := #[.int .i64 0, .int .i64 0, .slice none 0 0]) ?_ 0 _ rfl; (with_reducible repeat (first | refine blk_drewN ?_ _ | refine blk_drew ?_ | refine blk_alloc ?_ _)); exact BK421.out) hb); have n2_ := Aside0.mk (below_step (bB) hb); clear BK419; clear BK421; clear HB; have BK419 := n0_; have BK421 := n1_; have HB := n2_; clear n0_ n1_ n2_; (try clear hb); (try clear hb2); (try clear hk); (try clear hi)))
        (first | go_roundg k1 | ((simp only [add_plain] at *); go_roundg k1))
        case measure => have := HK1.out; omega
        case rel => exact ⟨(false), (true), (wrap64 (x11_1 + 1)), (by first | rfl | (simp; done) | (simp [*]; done)), (by first | rfl | (simp; done) | (simp [*]; done)), (by first | rfl | (simp; done) | (simp [*]; done)), H', ⟨by have := HK1.out; omega⟩, ⟨bK⟩, ⟨bB⟩⟩
       ·replace c18 := Bool.eq_false_iff.mpr c18
        subst c18
        have H1 : (semigroupref04_Nullable.l0 k1 false t422 l0_2 (l0_2.length : Int) (wrap64 (x11_1 + 1)) a0_0 a0_1 l0_2) = some r := by rw [if_neg (show ¬ (false = true) by decide)] at H; exact H
        clear H
        have H := H1
        clear H1
        have H' := Aside0.mk H
        clear H
        have p420 : 0 ≤ (x11_1 : Int) := of_decide_eq_true (by first | (with_reducible assumption) | assumption)
        have q420 : x11_1 < (l0_2.length : Int) := of_decide_eq_true (by first | (with_reducible assumption) | assumption)
        obtain ⟨ad420, A420_2, c420_2, e420, hx420_0, hx420_1, hx420_2, hl420_2, hi420_2⟩ := at_T24 HR0_2.out x11_1 p420 q420
        cases e420
        replace hx420_0 := (HB.out.cell (World.block_lt_of_cell? w _ hx420_0)).trans hx420_0
        replace hx420_1 := (HB.out.cell (World.block_lt_of_cell? w _ hx420_1)).trans hx420_1
        replace hx420_2 := (HB.out.cell (World.block_lt_of_cell? w _ hx420_2)).trans hx420_2
        have HR420_2 := Aside0.mk hi420_2
        have HC420_2 := Aside0.mk hl420_2
        clear hi420_2 hl420_2
        replace p420 := eq_true p420
        replace q420 := eq_true q420
        go_wp2_with (first | ((with_reducible refine gate_dst (N := 6) rfl ?_); refine box_event ?hg (N := 6) ?hd (cs := #[.int .i64 0, .int .i64 0, .slice none 0 0]) (t := 24) ?hr ?_; (case hd => rfl); (case hg => rfl); (case hr => first | (go_simp; done) | (go_simp; rfl)); intro gb421 hg w23 hbox hb; have n0_ := Aside0.mk (blk_below (g := gb419) (o := .cells #[.int .i64 a0_0, .int .i64 a0_1, .slice (some ad420) l0_2.length c0_2] 24 (0, 0)) (bK) hb); have n1_ := Aside0.mk (below_step (bB) hb); have n2_ := Aside0.mk (hbox); have n3_ := Aside0.mk ((by rw [hg]; exact (below_size (bB)) : w.heap.size ≤ gb421)); have n4_ := Aside0.mk ((by rw [hg]; exact (below_size (bB)) : w.heap.size ≤ gb421)); have n5_ := Aside0.mk ((by rw [hg]; exact Nat.ne_of_lt (blk_lt (g := gb419) (o := .cells #[.int .i64 a0_0, .int .i64 a0_1, .slice (some ad420) l0_2.length c0_2] 24 (0, 0)) (bK)) : gb419 ≠ gb421)); have n6_ := Aside0.mk ((by rw [hg]; exact Nat.ne_of_gt (blk_lt (g := gb419) (o := .cells #[.int .i64 a0_0, .int .i64 a0_1, .slice (some ad420) l0_2.length c0_2] 24 (0, 0)) (bK)) : gb421 ≠ gb419)); clear BK419; clear HB; have BK419 := n0_; have HB := n1_; have BK421 := n2_; have GW421 := n3_; have GE421 := n4_; have NB419_421 := n5_; have NB421_419 := n6_; clear n0_ n1_ n2_ n3_ n4_ n5_ n6_; clear hb hbox hg; have hnb24 := NB421_419.out; have hnc24 := NB419_421.out; have hcz25_0 : w23.cell? ⟨gb421, 0, none⟩ = some (.int .i64 0) := (blk_cell BK421.out 0).trans rfl; have hcz25_1 : w23.cell? ⟨gb421, 1, none⟩ = some (.int .i64 0) := (blk_cell BK421.out 1).trans rfl; have hcz25_2 : w23.cell? ⟨gb421, 2, none⟩ = some (.slice none 0 0) := (blk_cell BK421.out 2).trans rfl; have hfz25_0 := blk_frozen BK421.out 0; have hfz25_1 := blk_frozen BK421.out 1; have hfz25_2 := blk_frozen BK421.out 2) | ((with_reducible refine gate_callee (f := 34) rfl ?_); refine goesL_ (some 16) rfl rfl Try.func34 (by kernel_rfl) rfl #[.agg #[.int .i64 ((rd_T24 l0_2 x11_1).f0), .int .i64 ((rd_T24 l0_2 x11_1).f1), .slice A420_2 ((rd_T24 l0_2 x11_1).f2).length c420_2]] rfl (by (try simp only [List.map_toArray, List.map_cons, List.map_nil]); first | done | rfl | (simp only [List.length_drop, List.length_take]; rfl) | (simp only [Int.ofNat_lt, Int.ofNat_le]; rfl)) ?_; (with_reducible refine (ih k1 (by have := HK1.out; omega) ((rd_T24 l0_2 x11_1).f0) ((rd_T24 l0_2 x11_1).f1) _ _ ((rd_T24 l0_2 x11_1).f2) t422 _ ?side1 ?side2 A7.out).mono ?_); (case side1 => exact Kd.C_below HR420_2.out (bB)); (case side2 => exact HC420_2.out); rintro e w26 ⟨rfl, hb⟩; refine ⟨_, rfl, ?_⟩; have n0_ := Aside0.mk (blk_below (g := gb419) (o := .cells #[.int .i64 a0_0, .int .i64 a0_1, .slice (some ad420) l0_2.length c0_2] 24 (0, 0)) (by (with_reducible repeat (first | refine blk_drewN ?_ _ | refine blk_drew ?_ | refine blk_alloc ?_ _)); refine blk_far ?_ NB419_421.out _; (with_reducible repeat (first | refine blk_drewN ?_ _ | refine blk_drew ?_ | refine blk_alloc ?_ _)); refine blk_far ?_ NB419_421.out _; (with_reducible repeat (first | refine blk_drewN ?_ _ | refine blk_drew ?_ | refine blk_alloc ?_ _)); refine blk_far ?_ NB419_421.out _; (with_reducible repeat (first | refine blk_drewN ?_ _ | refine blk_drew ?_ | refine blk_alloc ?_ _)); exact BK419.out) hb); have n1_ := Aside0.mk (blk_below (g := gb421) (o := .cells #[.int .i64 ((rd_T24 l0_2 x11_1).f0), .int .i64 ((rd_T24 l0_2 x11_1).f1), .slice A420_2 ((rd_T24 l0_2 x11_1).f2).length c420_2] 24 (0, 0)) (by (with_reducible repeat (first | refine blk_drewN ?_ _ | refine blk_drew ?_ | refine blk_alloc ?_ _)); refine blk_put (cs := #[.int .i64 ((rd_T24 l0_2 x11_1).f0), .int .i64 ((rd_T24 l0_2 x11_1).f1), .slice none 0 0]) ?_ 2 _ rfl; (with_reducible repeat (first | refine blk_drewN ?_ _ | refine blk_drew ?_ | refine blk_alloc ?_ _)); refine blk_put (cs := #[.int .i64 ((rd_T24 l0_2 x11_1).f0), .int .i64 0, .slice none 0 0]) ?_ 1 _ rfl; (with_reducible repeat (first | refine blk_drewN ?_ _ | refine blk_drew ?_ | refine blk_alloc ?_ _)); refine blk_put (cs := #[.int .i64 0, .int .i64 0, .slice none 0 0]) ?_ 0 _ rfl; (with_reducible repeat (first | refine blk_drewN ?_ _ | refine blk_drew ?_ | refine blk_alloc ?_ _)); exact BK421.out) hb); have n2_ := Aside0.mk (below_step (bB) hb); clear BK419; clear BK421; clear HB; have BK419 := n0_; have BK421 := n1_; have HB := n2_; clear n0_ n1_ n2_; (try clear hb); (try clear hb2); (try clear hk); (try clear hi)))
        (first | go_roundg k1 | ((simp only [add_plain] at *); go_roundg k1))
        case measure => have := HK1.out; omega
        case rel => exact ⟨(false), (t422), (wrap64 (x11_1 + 1)), (by first | rfl | (simp; done) | (simp [*]; done)), (by first | rfl | (simp; done) | (simp [*]; done)), (by first | rfl | (simp; done) | (simp [*]; done)), H', ⟨by have := HK1.out; omega⟩, ⟨bK⟩, ⟨bB⟩⟩
     ·rw [if_neg c6] at H
      exact absurd H (by simp)
    ·rw [if_neg c5] at H
     exact absurd H (by simp)
   ·rw [if_neg c4] at H
    have c4b0 : decide (x11_1 < (l0_2.length : Int)) = false := decide_eq_false c4
    clear c4
    have HC27 := Aside0.mk H
    clear H
    have hcz28_0 : wr.cell? ⟨gb419, 0, none⟩ = some (.int .i64 a0_0) := (blk_cell BK419.out 0).trans rfl
    have hcz28_1 : wr.cell? ⟨gb419, 1, none⟩ = some (.int .i64 a0_1) := (blk_cell BK419.out 1).trans rfl
    have hcz28_2 : wr.cell? ⟨gb419, 2, none⟩ = some (.slice A0_2 l0_2.length c0_2) := (blk_cell BK419.out 2).trans rfl
    have hfz28_0 := blk_frozen BK419.out 0
    have hfz28_1 := blk_frozen BK419.out 1
    have hfz28_2 := blk_frozen BK419.out 2
    go_upto_if 28 with (fail)
    go_cut [28] (fun v28 wc => ∃ (kq : Nat) (x28_26 : Bool), v28 = .bool x28_26 ∧ Aside0 (semigroupref04_Nullable.j1 kq x3_1 x4_1 a0_0 x28_26 = some r) ∧ Aside0 (kq ≤ k1) ∧ Aside0 (wc.heap[gb419]? = some (.cells #[.int .i64 a0_0, .int .i64 a0_1, (.slice A0_2 l0_2.length c0_2)] 24 (0, 0))) ∧ Aside0 (Below w.heap.size w wc))
    case first =>
     have H := HC27.out
     clear HC27
     by_cases c29 : a0_0 = 2
     ·rw [if_pos c29] at H
      have c29b0 : (a0_0 == 2) = true := beq_iff_eq.mpr c29
      have c29b1 : (a0_0 != 2) = false := bne_eq_false_iff_eq.mpr c29
      clear c29
      (first | rw [c29b0] | (simp only [i64_w, i32_w]; rw [c29b0]) | skip)
      have H' := Aside0.mk H
      clear H
      go_wp2
      go_meet
      case rel => exact ⟨_, ((a0_0 == 2)), (by first | rfl | (simp; done) | (simp [*]; done)), H', ⟨by have := HK1.out; first | omega | exact Nat.le_refl _⟩, ⟨bK⟩, ⟨bB⟩⟩
     ·rw [if_neg c29] at H
      have c29b0 : (a0_0 == 2) = false := beq_eq_false_iff_ne.mpr c29
      have c29b1 : (a0_0 != 2) = true := bne_iff_ne.mpr c29
      (first | rw [c29b0] | (simp only [i64_w, i32_w]; rw [c29b0]) | skip)
      have H' := Aside0.mk H
      clear H
      go_wp2
      go_meet
      case rel => exact ⟨_, ((a0_0 == 7)), (by first | rfl | (simp; done) | (simp [*]; done)), H', ⟨by have := HK1.out; first | omega | exact Nat.le_refl _⟩, ⟨bK⟩, ⟨bB⟩⟩
    case rest =>
     clear HC27
     try clear c1
     try clear c2
     try clear p2
     try clear c3
     try clear c4
     try clear c4b0
     try clear p4
     try clear q4
     try clear hx4
     try clear c5
     try clear c5b0
     try clear c6
     try clear c6b0
     try clear p6
     try clear c8
     try clear c9
     try clear c11
     try clear c15
     try clear c18
     try clear c20
     try clear c24
     try clear c29
     try clear c29b0
     try clear c29b1
     try clear hcz12_0
     try clear hcz12_1
     try clear hcz12_2
     try clear hcz16_0
     try clear hcz16_1
     try clear hcz16_2
     try clear hcz21_0
     try clear hcz21_1
     try clear hcz21_2
     try clear hcz25_0
     try clear hcz25_1
     try clear hcz25_2
     try clear hcz28_0
     try clear hcz28_1
     try clear hcz28_2
     try clear hcz3_0
     try clear hcz3_1
     try clear hcz3_2
     try clear hfz12_0
     try clear hfz12_1
     try clear hfz12_2
     try clear hfz16_0
     try clear hfz16_1
     try clear hfz16_2
     try clear hfz21_0
     try clear hfz21_1
     try clear hfz21_2
     try clear hfz25_0
     try clear hfz25_1
     try clear hfz25_2
     try clear hfz28_0
     try clear hfz28_1
     try clear hfz28_2
     try clear hfz3_0
     try clear hfz3_1
     try clear hfz3_2
     try clear hx420_0
     try clear hx420_1
     try clear hx420_2
     try clear p2
     try clear p420
     try clear q420
     obtain ⟨kq, x28_26, rfl, HA, HJ26, BK419, HB⟩ := hcut
     cases kq with
     | zero => exact absurd HA.out (by simp [semigroupref04_Nullable.j1])
     | succ kj26 =>
      have H := HA.out
      clear HA
      simp only [semigroupref04_Nullable.j1] at H
      by_cases c30 : x28_26 = true
      ·subst c30
       have H1 : (some true) = some r := by rw [if_pos rfl] at H; exact H
       clear H
       have H := H1
       clear H1
       obtain rfl := Option.some.inj H
       go_wp2
       go_ret
       exact ⟨by first | rfl | (simp [errW_none, errW_some] <;> rfl) | (simp [*, errW_none, errW_some] <;> rfl), bB⟩
      ·replace c30 := Bool.eq_false_iff.mpr c30
       subst c30
       have H1 : (if a0_0 = 4 then (some x4_1) else (if a0_0 = 5 then (semigroupref04_Nullable.j2 kj26 x3_1 x4_1 a0_0 (a0_0 == 5)) else (semigroupref04_Nullable.j2 kj26 x3_1 x4_1 a0_0 (a0_0 == 6)))) = some r := by rw [if_neg (show ¬ (false = true) by decide)] at H; exact H
       clear H
       have H := H1
       clear H1
       by_cases c31 : a0_0 = 4
       ·rw [if_pos c31] at H
        have c31b0 : (a0_0 == 4) = true := beq_iff_eq.mpr c31
        have c31b1 : (a0_0 != 4) = false := bne_eq_false_iff_eq.mpr c31
        clear c31
        obtain rfl := Option.some.inj H
        go_wp2
        go_ret
        exact ⟨by first | rfl | (simp [errW_none, errW_some] <;> rfl) | (simp [*, errW_none, errW_some] <;> rfl), bB⟩
       ·rw [if_neg c31] at H
        have c31b0 : (a0_0 == 4) = false := beq_eq_false_iff_ne.mpr c31
        have c31b1 : (a0_0 != 4) = true := bne_iff_ne.mpr c31
        have HC32 := Aside0.mk H
        clear H
        go_upto_if 34 with (fail)
        go_cut [34] (fun v34 wc => ∃ (kq : Nat) (x34_31 : Bool), v34 = .bool x34_31 ∧ Aside0 (semigroupref04_Nullable.j2 kq x3_1 x4_1 a0_0 x34_31 = some r) ∧ Aside0 (kq ≤ kj26) ∧ Aside0 (wc.heap[gb419]? = some (.cells #[.int .i64 a0_0, .int .i64 a0_1, (.slice A0_2 l0_2.length c0_2)] 24 (0, 0))) ∧ Aside0 (Below w.heap.size w wc))
        case first =>
         have H := HC32.out
         clear HC32
         by_cases c33 : a0_0 = 5
         ·rw [if_pos c33] at H
          have c33b0 : (a0_0 == 5) = true := beq_iff_eq.mpr c33
          have c33b1 : (a0_0 != 5) = false := bne_eq_false_iff_eq.mpr c33
          clear c33
          (first | rw [c33b0] | (simp only [i64_w, i32_w]; rw [c33b0]) | skip)
          have H' := Aside0.mk H
          clear H
          go_wp2
          go_meet
          case rel => exact ⟨_, ((a0_0 == 5)), (by first | rfl | (simp; done) | (simp [*]; done)), H', ⟨by have := HK1.out; have := HJ26.out; first | omega | exact Nat.le_refl _⟩, ⟨bK⟩, ⟨bB⟩⟩
         ·rw [if_neg c33] at H
          have c33b0 : (a0_0 == 5) = false := beq_eq_false_iff_ne.mpr c33
          have c33b1 : (a0_0 != 5) = true := bne_iff_ne.mpr c33
          (first | rw [c33b0] | (simp only [i64_w, i32_w]; rw [c33b0]) | skip)
          have H' := Aside0.mk H
          clear H
          go_wp2
          go_meet
          case rel => exact ⟨_, ((a0_0 == 6)), (by first | rfl | (simp; done) | (simp [*]; done)), H', ⟨by have := HK1.out; have := HJ26.out; first | omega | exact Nat.le_refl _⟩, ⟨bK⟩, ⟨bB⟩⟩
        case rest =>
         clear HC32
         try clear c1
         try clear c2
         try clear p2
         try clear c3
         try clear c4
         try clear c4b0
         try clear p4
         try clear q4
         try clear hx4
         try clear c5
         try clear c5b0
         try clear c6
         try clear c6b0
         try clear p6
         try clear c8
         try clear c9
         try clear c11
         try clear c15
         try clear c18
         try clear c20
         try clear c24
         try clear c29
         try clear c29b0
         try clear c29b1
         try clear c30
         try clear c31
         try clear c31b0
         try clear c31b1
         try clear c33
         try clear c33b0
         try clear c33b1
         try clear hcz12_0
         try clear hcz12_1
         try clear hcz12_2
         try clear hcz16_0
         try clear hcz16_1
         try clear hcz16_2
         try clear hcz21_0
         try clear hcz21_1
         try clear hcz21_2
         try clear hcz25_0
         try clear hcz25_1
         try clear hcz25_2
         try clear hcz28_0
         try clear hcz28_1
         try clear hcz28_2
         try clear hcz3_0
         try clear hcz3_1
         try clear hcz3_2
         try clear hfz12_0
         try clear hfz12_1
         try clear hfz12_2
         try clear hfz16_0
         try clear hfz16_1
         try clear hfz16_2
         try clear hfz21_0
         try clear hfz21_1
         try clear hfz21_2
         try clear hfz25_0
         try clear hfz25_1
         try clear hfz25_2
         try clear hfz28_0
         try clear hfz28_1
         try clear hfz28_2
         try clear hfz3_0
         try clear hfz3_1
         try clear hfz3_2
         try clear hx420_0
         try clear hx420_1
         try clear hx420_2
         try clear p2
         try clear p4
         try clear p420
         try clear p6
         try clear q4
         try clear q420
         obtain ⟨kq, x34_31, rfl, HA, HJ31, BK419, HB⟩ := hcut
         cases kq with
         | zero => exact absurd HA.out (by simp [semigroupref04_Nullable.j2])
         | succ kj31 =>
          have H := HA.out
          clear HA
          simp only [semigroupref04_Nullable.j2] at H
          by_cases c34 : x34_31 = true
          ·subst c34
           have H1 : (some x3_1) = some r := by rw [if_pos rfl] at H; exact H
           clear H
           have H := H1
           clear H1
           obtain rfl := Option.some.inj H
           go_wp2
           go_ret
           exact ⟨by first | rfl | (simp [errW_none, errW_some] <;> rfl) | (simp [*, errW_none, errW_some] <;> rfl), bB⟩
          ·replace c34 := Bool.eq_false_iff.mpr c34
           subst c34
           have H1 : (if a0_0 = 8 then (some (!x4_1)) else (some false)) = some r := by rw [if_neg (show ¬ (false = true) by decide)] at H; exact H
           clear H
           have H := H1
           clear H1
           by_cases c35 : a0_0 = 8
           ·rw [if_pos c35] at H
            have c35b0 : (a0_0 == 8) = true := beq_iff_eq.mpr c35
            have c35b1 : (a0_0 != 8) = false := bne_eq_false_iff_eq.mpr c35
            clear c35
            obtain rfl := Option.some.inj H
            go_wp2
            go_ret
            exact ⟨by first | rfl | (simp [errW_none, errW_some] <;> rfl) | (simp [*, errW_none, errW_some] <;> rfl), bB⟩
           ·rw [if_neg c35] at H
            have c35b0 : (a0_0 == 8) = false := beq_eq_false_iff_ne.mpr c35
            have c35b1 : (a0_0 != 8) = true := bne_iff_ne.mpr c35
            obtain rfl := Option.some.inj H
            go_wp2
            go_ret
            exact ⟨by first | rfl | (simp [errW_none, errW_some] <;> rfl) | (simp [*, errW_none, errW_some] <;> rfl), bB⟩
end Go.Proofs.Ytjofkebiacaciaa.PAll
