/- The functions that the laws of this seat reach, a proof for each that the Go code comes to them, and the plain laws; merged. Conditions: none beside those of the given statements. -/
import Derived.Test.YtjofkebiacaciaaMc14
import Derived.Test.YtjofkebiacaciaaMc16
import Derived.Test.YtjofkebiacaciaaMExprFormats1
section
namespace Go.Proofs.Ytjofkebiacaciaa.PAll
open Go.RowKit Go.Proofs.YtjofkebiacaciaaW.PrintWords Go.Proofs.YtjofkebiacaciaaW.PrintLast Go.Proofs.YtjofkebiacaciaaW.PrintMore
attribute [local go_sem] max2_int min2_int max_two min_two max_three min_three max_four min_four
set_option linter.unusedVariables false
set_option linter.unusedSimpArgs false
def semigroupref04_Size.f (k : Nat) (a0_0 : Int) (a0_1 : Int) (l0_2 : List (S24)) : Option (Int) := (semigroupref04_measure.f k a0_0 a0_1 l0_2 400).bind fun bt406 => (some bt406.1)
theorem semigroupref04_Size.mono : ∀ a0 a1 a2 k, LeO (semigroupref04_Size.f k a0 a1 a2) (semigroupref04_Size.f (k + 1) a0 a1 a2) := by
 intro a0 a1 a2 k
 unfold semigroupref04_Size.f
 repeat' first
   | (with_reducible exact semigroupref04_measure.mono _ _ _ _ _)
   | (with_reducible exact LeO.refl _)
   | (with_reducible exact LeO.none _)
   | (with_reducible refine LeO.ite ?_ ?_)
   | (with_reducible refine LeO.bind ?_ (fun _ => ?_))
   | exact semigroupref04_measure.mono _ _ _ _ _
   | exact LeO.none _
   | refine LeO.ite ?_ ?_
   | refine LeO.bind ?_ (fun _ => ?_)
set_option maxHeartbeats 8000000 in
set_option maxRecDepth 100000 in
theorem semigroupref04_Size.calls (k : Nat) (a0_0 : Int) (a0_1 : Int) (A0_2 : Option Addr) (c0_2 : Nat) (l0_2 : List (S24)) (r : Int) (w : World) (hr0_2 : Kd.C k24 w A0_2 l0_2.length l0_2) (hc0_2 : l0_2.length ≤ c0_2) (h : semigroupref04_Size.f k a0_0 a0_1 l0_2 = some r) :
  Calls Try.prog 30 #[.agg #[.int .i64 a0_0, .int .i64 a0_1, .slice A0_2 l0_2.length c0_2]] w fun e w' => e = .returned (.int .i64 r) ∧ Below w.heap.size w w' := by
 have hu24 := Try.underlying24
 have HR0_2 := Aside0.mk hr0_2
 have HC0_2 := Aside0.mk hc0_2
 clear hr0_2 hc0_2
 have HB := Aside0.mk (Below.refl w.heap.size w)
 have H : ((semigroupref04_measure.f k a0_0 a0_1 l0_2 400).bind fun bt406 => (some bt406.1)) = some r := h
 clear h
 replace H := Option.bind_eq_some_iff.mp H
 obtain ⟨⟨t406, t407⟩, A20, H⟩ := H
 replace H : (some t406) = some r := H
 have A2 := Aside0.mk A20
 clear A20
 obtain rfl := Option.some.inj H
 go_enter Try.func30, Try.ntmps30
 go_wp2_with (first | ((with_reducible refine gate_dst (N := 1) rfl ?_); refine box_event ?hg (N := 1) ?hd (cs := #[.int .i64 a0_0, .int .i64 a0_1, .slice A0_2 l0_2.length c0_2]) (t := 24) ?hr ?_; (case hd => rfl); (case hg => rfl); (case hr => first | (go_simp; done) | (go_simp; rfl)); intro gb405 hg w3 hbox hb; have n0_ := Aside0.mk (below_step (bB) hb); have n1_ := Aside0.mk (hbox); have n2_ := Aside0.mk ((by rw [hg]; exact (below_size (bB)) : w.heap.size ≤ gb405)); have n3_ := Aside0.mk ((by rw [hg]; exact (below_size (bB)) : w.heap.size ≤ gb405)); clear HB; have HB := n0_; have BK405 := n1_; have GW405 := n2_; have GE405 := n3_; clear n0_ n1_ n2_ n3_; clear hb hbox hg; have hcz4_0 : w3.cell? ⟨gb405, 0, none⟩ = some (.int .i64 a0_0) := (blk_cell BK405.out 0).trans rfl; have hcz4_1 : w3.cell? ⟨gb405, 1, none⟩ = some (.int .i64 a0_1) := (blk_cell BK405.out 1).trans rfl; have hcz4_2 : w3.cell? ⟨gb405, 2, none⟩ = some (.slice A0_2 l0_2.length c0_2) := (blk_cell BK405.out 2).trans rfl; have hfz4_0 := blk_frozen BK405.out 0; have hfz4_1 := blk_frozen BK405.out 1; have hfz4_2 := blk_frozen BK405.out 2) | ((with_reducible refine gate_callee (f := 58) rfl ?_); refine goesL_ (some 7) rfl rfl Try.func58 (by kernel_rfl) rfl #[.agg #[.int .i64 a0_0, .int .i64 a0_1, .slice A0_2 l0_2.length c0_2], .int .i64 400] rfl (by (try simp only [List.map_toArray, List.map_cons, List.map_nil]); first | done | rfl | (simp only [List.length_drop, List.length_take]; rfl) | (simp only [Int.ofNat_lt, Int.ofNat_le]; rfl)) ?_; (with_reducible refine (semigroupref04_measure.calls k a0_0 a0_1 _ _ l0_2 400 t406 t407 _ ?side1 ?side2 A2.out).mono ?_); (case side1 => repeat (first | exact (Kd.C_below HR0_2.out HB.out) | (with_reducible refine Kd.C_alloc ?_ _) | (with_reducible refine Kd.C_drewN ?_ _) | (with_reducible refine Kd.C_drew ?_))); (case side2 => exact HC0_2.out); rintro e w5 ⟨rfl, hb⟩; refine ⟨_, rfl, ?_⟩; have n0_ := Aside0.mk (blk_below (g := gb405) (o := .cells #[.int .i64 a0_0, .int .i64 a0_1, .slice A0_2 l0_2.length c0_2] 24 (0, 0)) (bK) hb); have n1_ := Aside0.mk (below_step (bB) hb); clear BK405; clear HB; have BK405 := n0_; have HB := n1_; clear n0_ n1_; (try clear hb); (try clear hb2); (try clear hk); (try clear hi)))
 go_ret
 exact ⟨by first | rfl | (simp [errW_none, errW_some] <;> rfl) | (simp [*, errW_none, errW_some] <;> rfl), bB⟩
end Go.Proofs.Ytjofkebiacaciaa.PAll
end
section
namespace Go.Proofs.Ytjofkebiacaciaa.PAll
open Go.RowKit Go.Proofs.YtjofkebiacaciaaW.PrintWords Go.Proofs.YtjofkebiacaciaaW.PrintLast Go.Proofs.YtjofkebiacaciaaW.PrintMore
attribute [local go_sem] max2_int min2_int max_two min_two max_three min_three max_four min_four
set_option linter.unusedVariables false
set_option linter.unusedSimpArgs false
def semigroupref04_Depth.f (k : Nat) (a0_0 : Int) (a0_1 : Int) (l0_2 : List (S24)) : Option (Int) := (semigroupref04_measure.f k a0_0 a0_1 l0_2 400).bind fun bt409 => (some bt409.2)
theorem semigroupref04_Depth.mono : ∀ a0 a1 a2 k, LeO (semigroupref04_Depth.f k a0 a1 a2) (semigroupref04_Depth.f (k + 1) a0 a1 a2) := by
 intro a0 a1 a2 k
 unfold semigroupref04_Depth.f
 repeat' first
   | (with_reducible exact semigroupref04_measure.mono _ _ _ _ _)
   | (with_reducible exact LeO.refl _)
   | (with_reducible exact LeO.none _)
   | (with_reducible refine LeO.ite ?_ ?_)
   | (with_reducible refine LeO.bind ?_ (fun _ => ?_))
   | exact semigroupref04_measure.mono _ _ _ _ _
   | exact LeO.none _
   | refine LeO.ite ?_ ?_
   | refine LeO.bind ?_ (fun _ => ?_)
set_option maxHeartbeats 8000000 in
set_option maxRecDepth 100000 in
theorem semigroupref04_Depth.calls (k : Nat) (a0_0 : Int) (a0_1 : Int) (A0_2 : Option Addr) (c0_2 : Nat) (l0_2 : List (S24)) (r : Int) (w : World) (hr0_2 : Kd.C k24 w A0_2 l0_2.length l0_2) (hc0_2 : l0_2.length ≤ c0_2) (h : semigroupref04_Depth.f k a0_0 a0_1 l0_2 = some r) :
  Calls Try.prog 31 #[.agg #[.int .i64 a0_0, .int .i64 a0_1, .slice A0_2 l0_2.length c0_2]] w fun e w' => e = .returned (.int .i64 r) ∧ Below w.heap.size w w' := by
 have hu24 := Try.underlying24
 have HR0_2 := Aside0.mk hr0_2
 have HC0_2 := Aside0.mk hc0_2
 clear hr0_2 hc0_2
 have HB := Aside0.mk (Below.refl w.heap.size w)
 have H : ((semigroupref04_measure.f k a0_0 a0_1 l0_2 400).bind fun bt409 => (some bt409.2)) = some r := h
 clear h
 replace H := Option.bind_eq_some_iff.mp H
 obtain ⟨⟨t409, t410⟩, A20, H⟩ := H
 replace H : (some t410) = some r := H
 have A2 := Aside0.mk A20
 clear A20
 obtain rfl := Option.some.inj H
 go_enter Try.func31, Try.ntmps31
 go_wp2_with (first | ((with_reducible refine gate_dst (N := 1) rfl ?_); refine box_event ?hg (N := 1) ?hd (cs := #[.int .i64 a0_0, .int .i64 a0_1, .slice A0_2 l0_2.length c0_2]) (t := 24) ?hr ?_; (case hd => rfl); (case hg => rfl); (case hr => first | (go_simp; done) | (go_simp; rfl)); intro gb408 hg w3 hbox hb; have n0_ := Aside0.mk (below_step (bB) hb); have n1_ := Aside0.mk (hbox); have n2_ := Aside0.mk ((by rw [hg]; exact (below_size (bB)) : w.heap.size ≤ gb408)); have n3_ := Aside0.mk ((by rw [hg]; exact (below_size (bB)) : w.heap.size ≤ gb408)); clear HB; have HB := n0_; have BK408 := n1_; have GW408 := n2_; have GE408 := n3_; clear n0_ n1_ n2_ n3_; clear hb hbox hg; have hcz4_0 : w3.cell? ⟨gb408, 0, none⟩ = some (.int .i64 a0_0) := (blk_cell BK408.out 0).trans rfl; have hcz4_1 : w3.cell? ⟨gb408, 1, none⟩ = some (.int .i64 a0_1) := (blk_cell BK408.out 1).trans rfl; have hcz4_2 : w3.cell? ⟨gb408, 2, none⟩ = some (.slice A0_2 l0_2.length c0_2) := (blk_cell BK408.out 2).trans rfl; have hfz4_0 := blk_frozen BK408.out 0; have hfz4_1 := blk_frozen BK408.out 1; have hfz4_2 := blk_frozen BK408.out 2) | ((with_reducible refine gate_callee (f := 58) rfl ?_); refine goesL_ (some 7) rfl rfl Try.func58 (by kernel_rfl) rfl #[.agg #[.int .i64 a0_0, .int .i64 a0_1, .slice A0_2 l0_2.length c0_2], .int .i64 400] rfl (by (try simp only [List.map_toArray, List.map_cons, List.map_nil]); first | done | rfl | (simp only [List.length_drop, List.length_take]; rfl) | (simp only [Int.ofNat_lt, Int.ofNat_le]; rfl)) ?_; (with_reducible refine (semigroupref04_measure.calls k a0_0 a0_1 _ _ l0_2 400 t409 t410 _ ?side1 ?side2 A2.out).mono ?_); (case side1 => repeat (first | exact (Kd.C_below HR0_2.out HB.out) | (with_reducible refine Kd.C_alloc ?_ _) | (with_reducible refine Kd.C_drewN ?_ _) | (with_reducible refine Kd.C_drew ?_))); (case side2 => exact HC0_2.out); rintro e w5 ⟨rfl, hb⟩; refine ⟨_, rfl, ?_⟩; have n0_ := Aside0.mk (blk_below (g := gb408) (o := .cells #[.int .i64 a0_0, .int .i64 a0_1, .slice A0_2 l0_2.length c0_2] 24 (0, 0)) (bK) hb); have n1_ := Aside0.mk (below_step (bB) hb); clear BK408; clear HB; have BK408 := n0_; have HB := n1_; clear n0_ n1_; (try clear hb); (try clear hb2); (try clear hk); (try clear hi)))
 go_ret
 exact ⟨by first | rfl | (simp [errW_none, errW_some] <;> rfl) | (simp [*, errW_none, errW_some] <;> rfl), bB⟩
end Go.Proofs.Ytjofkebiacaciaa.PAll
end
section
namespace Go.Proofs.Ytjofkebiacaciaa.PAll
open Go.RowKit Go.Proofs.YtjofkebiacaciaaW.PrintWords Go.Proofs.YtjofkebiacaciaaW.PrintLast Go.Proofs.YtjofkebiacaciaaW.PrintMore
attribute [local go_sem] max2_int min2_int max_two min_two max_three min_three max_four min_four
set_option linter.unusedVariables false
set_option linter.unusedSimpArgs false
mutual
def semigroupref04_StarHeight.l0 : Nat → Int → List (S24) → Int → Int → Int → Int → List (S24) → Option (Int)
 | 0, _, _, _, _, _, _, _ => none
 | k + 1, x3, x7, x8, x9, x412000, x412001, x412002 => if x9 < x8 then (if 0 ≤ x9 then (if x9 < (x7.length : Int) then ((semigroupref04_StarHeight.f k ((rd_T24 x7 x9).f0) ((rd_T24 x7 x9).f1) ((rd_T24 x7 x9).f2)).bind fun t414 => (semigroupref04_StarHeight.l0 k (mx x3 t414) x7 x8 (wrap64 (x9 + 1)) x412000 x412001 x412002)) else (none)) else (none)) else (if x412000 = 7 then (some (wrap64 (x3 + 1))) else (some x3))
def semigroupref04_StarHeight.f : Nat → Int → Int → List (S24) → Option (Int)
 | 0, _, _, _ => none
 | k + 1, a0_0, a0_1, l0_2 => semigroupref04_StarHeight.l0 k 0 l0_2 (l0_2.length : Int) 0 a0_0 a0_1 l0_2
end
theorem semigroupref04_StarHeight.mono_l : ∀ k, (∀ y0 y1 y2, LeO (semigroupref04_StarHeight.f k y0 y1 y2) (semigroupref04_StarHeight.f (k + 1) y0 y1 y2)) ∧ (∀ y0 y1 y2 y3 y4 y5 y6, LeO (semigroupref04_StarHeight.l0 k y0 y1 y2 y3 y4 y5 y6) (semigroupref04_StarHeight.l0 (k + 1) y0 y1 y2 y3 y4 y5 y6))
 | 0 => ⟨fun _ _ _ r h => by simp [semigroupref04_StarHeight.f] at h, fun _ _ _ _ _ _ _ r h => by simp [semigroupref04_StarHeight.l0] at h⟩
 | k + 1 => by
  obtain ⟨ih0, ih1⟩ := semigroupref04_StarHeight.mono_l k
  refine ⟨?_, ?_⟩
  ·intro y0 y1 y2
   unfold semigroupref04_StarHeight.f
   repeat' first
   | (with_reducible exact ih0 _ _ _)
   | (with_reducible exact ih1 _ _ _ _ _ _ _)
   | (with_reducible exact LeO.refl _)
   | (with_reducible exact LeO.none _)
   | (with_reducible refine LeO.ite ?_ ?_)
   | (with_reducible refine LeO.bind ?_ (fun _ => ?_))
   | exact ih0 _ _ _
   | exact ih1 _ _ _ _ _ _ _
   | exact LeO.none _
   | refine LeO.ite ?_ ?_
   | refine LeO.bind ?_ (fun _ => ?_)
  ·intro y0 y1 y2 y3 y4 y5 y6
   unfold semigroupref04_StarHeight.l0
   repeat' first
   | (with_reducible exact ih0 _ _ _)
   | (with_reducible exact ih1 _ _ _ _ _ _ _)
   | (with_reducible exact LeO.refl _)
   | (with_reducible exact LeO.none _)
   | (with_reducible refine LeO.ite ?_ ?_)
   | (with_reducible refine LeO.bind ?_ (fun _ => ?_))
   | exact ih0 _ _ _
   | exact ih1 _ _ _ _ _ _ _
   | exact LeO.none _
   | refine LeO.ite ?_ ?_
   | refine LeO.bind ?_ (fun _ => ?_)
theorem semigroupref04_StarHeight.mono : ∀ a0 a1 a2 k, LeO (semigroupref04_StarHeight.f k a0 a1 a2) (semigroupref04_StarHeight.f (k + 1) a0 a1 a2) := by
 intro a0 a1 a2 k
 obtain ⟨ih0, ih1⟩ := semigroupref04_StarHeight.mono_l k
 exact ih0 a0 a1 a2
set_option maxHeartbeats 8000000 in
set_option maxRecDepth 100000 in
theorem semigroupref04_StarHeight.calls (k : Nat) : ∀ (a0_0 : Int) (a0_1 : Int) (A0_2 : Option Addr) (c0_2 : Nat) (l0_2 : List (S24)) (r : Int) (w : World) (hr0_2 : Kd.C k24 w A0_2 l0_2.length l0_2) (hc0_2 : l0_2.length ≤ c0_2) (h : semigroupref04_StarHeight.f k a0_0 a0_1 l0_2 = some r),
  Calls Try.prog 32 #[.agg #[.int .i64 a0_0, .int .i64 a0_1, .slice A0_2 l0_2.length c0_2]] w fun e w' => e = .returned (.int .i64 r) ∧ Below w.heap.size w w' := by
 induction k using Nat.strongRecOn with
 | _ k ih =>
 intro a0_0 a0_1 A0_2 c0_2 l0_2 r w hr0_2 hc0_2 h
 cases k with
 | zero => exact absurd h (by simp [semigroupref04_StarHeight.f])
 | succ k =>
 simp only [semigroupref04_StarHeight.f] at h
 have hu24 := Try.underlying24
 have HR0_2 := Aside0.mk hr0_2
 have HC0_2 := Aside0.mk hc0_2
 clear hr0_2 hc0_2
 have HB := Aside0.mk (Below.refl w.heap.size w)
 have H : (semigroupref04_StarHeight.l0 k 0 l0_2 (l0_2.length : Int) 0 a0_0 a0_1 l0_2) = some r := h
 clear h
 have H' := Aside0.mk H
 clear H
 go_enter Try.func32, Try.ntmps32
 go_wp2_with (first | ((with_reducible refine gate_dst (N := 1) rfl ?_); refine box_event ?hg (N := 1) ?hd (cs := #[.int .i64 a0_0, .int .i64 a0_1, .slice A0_2 l0_2.length c0_2]) (t := 24) ?hr ?_; (case hd => rfl); (case hg => rfl); (case hr => first | (go_simp; done) | (go_simp; rfl)); intro gb411 hg w2 hbox hb; have n0_ := Aside0.mk (below_step (bB) hb); have n1_ := Aside0.mk (hbox); have n2_ := Aside0.mk ((by rw [hg]; exact (below_size (bB)) : w.heap.size ≤ gb411)); have n3_ := Aside0.mk ((by rw [hg]; exact (below_size (bB)) : w.heap.size ≤ gb411)); clear HB; have HB := n0_; have BK411 := n1_; have GW411 := n2_; have GE411 := n3_; clear n0_ n1_ n2_ n3_; clear hb hbox hg; have hcz3_0 : w2.cell? ⟨gb411, 0, none⟩ = some (.int .i64 a0_0) := (blk_cell BK411.out 0).trans rfl; have hcz3_1 : w2.cell? ⟨gb411, 1, none⟩ = some (.int .i64 a0_1) := (blk_cell BK411.out 1).trans rfl; have hcz3_2 : w2.cell? ⟨gb411, 2, none⟩ = some (.slice A0_2 l0_2.length c0_2) := (blk_cell BK411.out 2).trans rfl; have hfz3_0 := blk_frozen BK411.out 0; have hfz3_1 := blk_frozen BK411.out 1; have hfz3_2 := blk_frozen BK411.out 2))
 go_loopg [3, 9] k (fun kq v3 v9 w' => ∃ (x3_1 : Int) (x9_1 : Int), v3 = .int .i64 x3_1 ∧ v9 = .int .i64 x9_1 ∧ Aside0 (semigroupref04_StarHeight.l0 kq x3_1 l0_2 (l0_2.length : Int) x9_1 a0_0 a0_1 l0_2 = some r) ∧ Aside0 (kq ≤ k) ∧ Aside0 (w'.heap[gb411]? = some (.cells #[.int .i64 a0_0, .int .i64 a0_1, (.slice A0_2 l0_2.length c0_2)] 24 (0, 0))) ∧ Aside0 (Below w.heap.size w w'))
 case atStart => exact ⟨(0), (0), (by first | rfl | (simp; done) | (simp [*]; done)), (by first | rfl | (simp; done) | (simp [*]; done)), H', ⟨Nat.le_refl _⟩, ⟨bK⟩, ⟨bB⟩⟩
 case round =>
  clear H'
  try clear p2
  try clear c3
  try clear hcz3_0
  try clear hcz3_1
  try clear hcz3_2
  try clear hfz3_0
  try clear hfz3_1
  try clear hfz3_2
  obtain ⟨x3_1, x9_1, rfl, rfl, HA, HK1, BK411, HB⟩ := hrel
  cases gk with
  | zero => exact absurd HA.out (by simp [semigroupref04_StarHeight.l0])
  | succ k1 =>
   have H := HA.out
   clear HA
   simp only [semigroupref04_StarHeight.l0] at H
   by_cases c4 : x9_1 < (l0_2.length : Int)
   ·rw [if_pos c4] at H
    have c4b0 : decide (x9_1 < (l0_2.length : Int)) = true := decide_eq_true c4
    clear c4
    by_cases c5 : 0 ≤ x9_1
    ·rw [if_pos c5] at H
     have c5b0 : decide (0 ≤ x9_1) = true := decide_eq_true c5
     clear c5
     by_cases c6 : x9_1 < (l0_2.length : Int)
     ·rw [if_pos c6] at H
      have c6b0 : decide (x9_1 < (l0_2.length : Int)) = true := decide_eq_true c6
      clear c6
      replace H := Option.bind_eq_some_iff.mp H
      obtain ⟨t414, A70, H⟩ := H
      replace H : (semigroupref04_StarHeight.l0 k1 (mx x3_1 t414) l0_2 (l0_2.length : Int) (wrap64 (x9_1 + 1)) a0_0 a0_1 l0_2) = some r := H
      have A7 := Aside0.mk A70
      clear A70
      obtain ⟨ji8, hji8⟩ : ∃ j_ : Int, (mx x3_1 t414) = j_ := ⟨_, rfl⟩
      replace H : (semigroupref04_StarHeight.l0 k1 ji8 l0_2 (l0_2.length : Int) (wrap64 (x9_1 + 1)) a0_0 a0_1 l0_2) = some r := by first | (rw [hji8] at H; exact H) | (simp only [hji8] at H ⊢; exact H)
      (try rw [hji8] at A7)
      have hji8_ : (if x3_1 < t414 then t414 else x3_1) = ji8 := hji8
      have H' := Aside0.mk H
      clear H
      have p412 : 0 ≤ (x9_1 : Int) := of_decide_eq_true (by first | (with_reducible assumption) | assumption)
      have q412 : x9_1 < (l0_2.length : Int) := of_decide_eq_true (by first | (with_reducible assumption) | assumption)
      obtain ⟨ad412, A412_2, c412_2, e412, hx412_0, hx412_1, hx412_2, hl412_2, hi412_2⟩ := at_T24 HR0_2.out x9_1 p412 q412
      cases e412
      replace hx412_0 := (HB.out.cell (World.block_lt_of_cell? w _ hx412_0)).trans hx412_0
      replace hx412_1 := (HB.out.cell (World.block_lt_of_cell? w _ hx412_1)).trans hx412_1
      replace hx412_2 := (HB.out.cell (World.block_lt_of_cell? w _ hx412_2)).trans hx412_2
      have HR412_2 := Aside0.mk hi412_2
      have HC412_2 := Aside0.mk hl412_2
      clear hi412_2 hl412_2
      replace p412 := eq_true p412
      replace q412 := eq_true q412
      go_wp2_with (first | ((with_reducible refine gate_dst (N := 5) rfl ?_); refine box_event ?hg (N := 5) ?hd (cs := #[.int .i64 0, .int .i64 0, .slice none 0 0]) (t := 24) ?hr ?_; (case hd => rfl); (case hg => rfl); (case hr => first | (go_simp; done) | (go_simp; rfl)); intro gb413 hg w9 hbox hb; have n0_ := Aside0.mk (blk_below (g := gb411) (o := .cells #[.int .i64 a0_0, .int .i64 a0_1, .slice (some ad412) l0_2.length c0_2] 24 (0, 0)) (bK) hb); have n1_ := Aside0.mk (below_step (bB) hb); have n2_ := Aside0.mk (hbox); have n3_ := Aside0.mk ((by rw [hg]; exact (below_size (bB)) : w.heap.size ≤ gb413)); have n4_ := Aside0.mk ((by rw [hg]; exact (below_size (bB)) : w.heap.size ≤ gb413)); have n5_ := Aside0.mk ((by rw [hg]; exact Nat.ne_of_lt (blk_lt (g := gb411) (o := .cells #[.int .i64 a0_0, .int .i64 a0_1, .slice (some ad412) l0_2.length c0_2] 24 (0, 0)) (bK)) : gb411 ≠ gb413)); have n6_ := Aside0.mk ((by rw [hg]; exact Nat.ne_of_gt (blk_lt (g := gb411) (o := .cells #[.int .i64 a0_0, .int .i64 a0_1, .slice (some ad412) l0_2.length c0_2] 24 (0, 0)) (bK)) : gb413 ≠ gb411)); clear BK411; clear HB; have BK411 := n0_; have HB := n1_; have BK413 := n2_; have GW413 := n3_; have GE413 := n4_; have NB411_413 := n5_; have NB413_411 := n6_; clear n0_ n1_ n2_ n3_ n4_ n5_ n6_; clear hb hbox hg; have hnb10 := NB413_411.out; have hnc10 := NB411_413.out; have hcz11_0 : w9.cell? ⟨gb413, 0, none⟩ = some (.int .i64 0) := (blk_cell BK413.out 0).trans rfl; have hcz11_1 : w9.cell? ⟨gb413, 1, none⟩ = some (.int .i64 0) := (blk_cell BK413.out 1).trans rfl; have hcz11_2 : w9.cell? ⟨gb413, 2, none⟩ = some (.slice none 0 0) := (blk_cell BK413.out 2).trans rfl; have hfz11_0 := blk_frozen BK413.out 0; have hfz11_1 := blk_frozen BK413.out 1; have hfz11_2 := blk_frozen BK413.out 2) | ((with_reducible refine gate_callee (f := 32) rfl ?_); refine goesL_ (some 15) rfl rfl Try.func32 (by kernel_rfl) rfl #[.agg #[.int .i64 ((rd_T24 l0_2 x9_1).f0), .int .i64 ((rd_T24 l0_2 x9_1).f1), .slice A412_2 ((rd_T24 l0_2 x9_1).f2).length c412_2]] rfl (by (try simp only [List.map_toArray, List.map_cons, List.map_nil]); first | done | rfl | (simp only [List.length_drop, List.length_take]; rfl) | (simp only [Int.ofNat_lt, Int.ofNat_le]; rfl)) ?_; (with_reducible refine (ih k1 (by have := HK1.out; omega) ((rd_T24 l0_2 x9_1).f0) ((rd_T24 l0_2 x9_1).f1) _ _ ((rd_T24 l0_2 x9_1).f2) t414 _ ?side1 ?side2 A7.out).mono ?_); (case side1 => exact Kd.C_below HR412_2.out (bB)); (case side2 => exact HC412_2.out); rintro e w12 ⟨rfl, hb⟩; refine ⟨_, rfl, ?_⟩; have n0_ := Aside0.mk (blk_below (g := gb411) (o := .cells #[.int .i64 a0_0, .int .i64 a0_1, .slice (some ad412) l0_2.length c0_2] 24 (0, 0)) (by (with_reducible repeat (first | refine blk_drewN ?_ _ | refine blk_drew ?_ | refine blk_alloc ?_ _)); refine blk_far ?_ NB411_413.out _; (with_reducible repeat (first | refine blk_drewN ?_ _ | refine blk_drew ?_ | refine blk_alloc ?_ _)); refine blk_far ?_ NB411_413.out _; (with_reducible repeat (first | refine blk_drewN ?_ _ | refine blk_drew ?_ | refine blk_alloc ?_ _)); refine blk_far ?_ NB411_413.out _; (with_reducible repeat (first | refine blk_drewN ?_ _ | refine blk_drew ?_ | refine blk_alloc ?_ _)); exact BK411.out) hb); have n1_ := Aside0.mk (blk_below (g := gb413) (o := .cells #[.int .i64 ((rd_T24 l0_2 x9_1).f0), .int .i64 ((rd_T24 l0_2 x9_1).f1), .slice A412_2 ((rd_T24 l0_2 x9_1).f2).length c412_2] 24 (0, 0)) (by (with_reducible repeat (first | refine blk_drewN ?_ _ | refine blk_drew ?_ | refine blk_alloc ?_ _)); refine blk_put (cs := #[.int .i64 ((rd_T24 l0_2 x9_1).f0), .int .i64 ((rd_T24 l0_2 x9_1).f1), .slice none 0 0]) ?_ 2 _ rfl; (with_reducible repeat (first | refine blk_drewN ?_ _ | refine blk_drew ?_ | refine blk_alloc ?_ _)); refine blk_put (cs := #[.int .i64 ((rd_T24 l0_2 x9_1).f0), .int .i64 0, .slice none 0 0]) ?_ 1 _ rfl; (with_reducible repeat (first | refine blk_drewN ?_ _ | refine blk_drew ?_ | refine blk_alloc ?_ _)); refine blk_put (cs := #[.int .i64 0, .int .i64 0, .slice none 0 0]) ?_ 0 _ rfl; (with_reducible repeat (first | refine blk_drewN ?_ _ | refine blk_drew ?_ | refine blk_alloc ?_ _)); exact BK413.out) hb); have n2_ := Aside0.mk (below_step (bB) hb); clear BK411; clear BK413; clear HB; have BK411 := n0_; have BK413 := n1_; have HB := n2_; clear n0_ n1_ n2_; (try clear hb); (try clear hb2); (try clear hk); (try clear hi)))
      (first | go_roundg k1 | ((simp only [add_plain] at *); go_roundg k1))
      case measure => have := HK1.out; omega
      case rel => exact ⟨(ji8), (wrap64 (x9_1 + 1)), (by first | rfl | (simp; done) | (simp only [← hji8] <;> (first | rfl | simp)) | (simp [*]; done)), (by first | rfl | (simp; done) | (simp [*]; done)), H', ⟨by have := HK1.out; omega⟩, ⟨bK⟩, ⟨bB⟩⟩
     ·rw [if_neg c6] at H
      exact absurd H (by simp)
    ·rw [if_neg c5] at H
     exact absurd H (by simp)
   ·rw [if_neg c4] at H
    have c4b0 : decide (x9_1 < (l0_2.length : Int)) = false := decide_eq_false c4
    clear c4
    by_cases c13 : a0_0 = 7
    ·rw [if_pos c13] at H
     have c13b0 : (a0_0 == 7) = true := beq_iff_eq.mpr c13
     have c13b1 : (a0_0 != 7) = false := bne_eq_false_iff_eq.mpr c13
     clear c13
     obtain rfl := Option.some.inj H
     have hcz14_0 : wr.cell? ⟨gb411, 0, none⟩ = some (.int .i64 a0_0) := (blk_cell BK411.out 0).trans rfl
     have hcz14_1 : wr.cell? ⟨gb411, 1, none⟩ = some (.int .i64 a0_1) := (blk_cell BK411.out 1).trans rfl
     have hcz14_2 : wr.cell? ⟨gb411, 2, none⟩ = some (.slice A0_2 l0_2.length c0_2) := (blk_cell BK411.out 2).trans rfl
     have hfz14_0 := blk_frozen BK411.out 0
     have hfz14_1 := blk_frozen BK411.out 1
     have hfz14_2 := blk_frozen BK411.out 2
     go_wp2
     go_ret
     exact ⟨by first | rfl | (simp [errW_none, errW_some] <;> rfl) | (simp [*, errW_none, errW_some] <;> rfl), bB⟩
    ·rw [if_neg c13] at H
     have c13b0 : (a0_0 == 7) = false := beq_eq_false_iff_ne.mpr c13
     have c13b1 : (a0_0 != 7) = true := bne_iff_ne.mpr c13
     obtain rfl := Option.some.inj H
     have hcz15_0 : wr.cell? ⟨gb411, 0, none⟩ = some (.int .i64 a0_0) := (blk_cell BK411.out 0).trans rfl
     have hcz15_1 : wr.cell? ⟨gb411, 1, none⟩ = some (.int .i64 a0_1) := (blk_cell BK411.out 1).trans rfl
     have hcz15_2 : wr.cell? ⟨gb411, 2, none⟩ = some (.slice A0_2 l0_2.length c0_2) := (blk_cell BK411.out 2).trans rfl
     have hfz15_0 := blk_frozen BK411.out 0
     have hfz15_1 := blk_frozen BK411.out 1
     have hfz15_2 := blk_frozen BK411.out 2
     go_wp2
     go_ret
     exact ⟨by first | rfl | (simp [errW_none, errW_some] <;> rfl) | (simp [*, errW_none, errW_some] <;> rfl), bB⟩
end Go.Proofs.Ytjofkebiacaciaa.PAll
end
section
namespace Go.Proofs.Ytjofkebiacaciaa.PAll
open Go.RowKit Go.Proofs.YtjofkebiacaciaaW.PrintWords Go.Proofs.YtjofkebiacaciaaW.PrintLast Go.Proofs.YtjofkebiacaciaaW.PrintMore
attribute [local go_sem] max2_int min2_int max_two min_two max_three min_three max_four min_four
set_option linter.unusedVariables false
set_option linter.unusedSimpArgs false
mutual
def semigroupref04_Uses.l0 : Nat → Int → List (S24) → Int → Int → Option (Bool)
 | 0, _, _, _, _ => none
 | k + 1, x1, x12, x13, x14 => if x14 < x13 then (if 0 ≤ x14 then (if x14 < (x12.length : Int) then ((semigroupref04_Uses.f k ((rd_T24 x12 x14).f0) ((rd_T24 x12 x14).f1) ((rd_T24 x12 x14).f2) x1).bind fun t418 => (if t418 = true then (some true) else (semigroupref04_Uses.l0 k x1 x12 x13 (wrap64 (x14 + 1))))) else (none)) else (none)) else (some false)
def semigroupref04_Uses.f : Nat → Int → Int → List (S24) → Int → Option (Bool)
 | 0, _, _, _, _ => none
 | k + 1, a0_0, a0_1, l0_2, a1 => if a0_0 = a1 then (some true) else (semigroupref04_Uses.l0 k a1 l0_2 (l0_2.length : Int) 0)
end
theorem semigroupref04_Uses.mono_l : ∀ k, (∀ y0 y1 y2 y3, LeO (semigroupref04_Uses.f k y0 y1 y2 y3) (semigroupref04_Uses.f (k + 1) y0 y1 y2 y3)) ∧ (∀ y0 y1 y2 y3, LeO (semigroupref04_Uses.l0 k y0 y1 y2 y3) (semigroupref04_Uses.l0 (k + 1) y0 y1 y2 y3))
 | 0 => ⟨fun _ _ _ _ r h => by simp [semigroupref04_Uses.f] at h, fun _ _ _ _ r h => by simp [semigroupref04_Uses.l0] at h⟩
 | k + 1 => by
  obtain ⟨ih0, ih1⟩ := semigroupref04_Uses.mono_l k
  refine ⟨?_, ?_⟩
  ·intro y0 y1 y2 y3
   unfold semigroupref04_Uses.f
   repeat' first
   | (with_reducible exact ih0 _ _ _ _)
   | (with_reducible exact ih1 _ _ _ _)
   | (with_reducible exact LeO.refl _)
   | (with_reducible exact LeO.none _)
   | (with_reducible refine LeO.ite ?_ ?_)
   | (with_reducible refine LeO.bind ?_ (fun _ => ?_))
   | exact ih0 _ _ _ _
   | exact ih1 _ _ _ _
   | exact LeO.none _
   | refine LeO.ite ?_ ?_
   | refine LeO.bind ?_ (fun _ => ?_)
  ·intro y0 y1 y2 y3
   unfold semigroupref04_Uses.l0
   repeat' first
   | (with_reducible exact ih0 _ _ _ _)
   | (with_reducible exact ih1 _ _ _ _)
   | (with_reducible exact LeO.refl _)
   | (with_reducible exact LeO.none _)
   | (with_reducible refine LeO.ite ?_ ?_)
   | (with_reducible refine LeO.bind ?_ (fun _ => ?_))
   | exact ih0 _ _ _ _
   | exact ih1 _ _ _ _
   | exact LeO.none _
   | refine LeO.ite ?_ ?_
   | refine LeO.bind ?_ (fun _ => ?_)
theorem semigroupref04_Uses.mono : ∀ a0 a1 a2 a3 k, LeO (semigroupref04_Uses.f k a0 a1 a2 a3) (semigroupref04_Uses.f (k + 1) a0 a1 a2 a3) := by
 intro a0 a1 a2 a3 k
 obtain ⟨ih0, ih1⟩ := semigroupref04_Uses.mono_l k
 exact ih0 a0 a1 a2 a3
set_option maxHeartbeats 8000000 in
set_option maxRecDepth 100000 in
theorem semigroupref04_Uses.calls (k : Nat) : ∀ (a0_0 : Int) (a0_1 : Int) (A0_2 : Option Addr) (c0_2 : Nat) (l0_2 : List (S24)) (a1 : Int) (r : Bool) (w : World) (hr0_2 : Kd.C k24 w A0_2 l0_2.length l0_2) (hc0_2 : l0_2.length ≤ c0_2) (h : semigroupref04_Uses.f k a0_0 a0_1 l0_2 a1 = some r),
  Calls Try.prog 33 #[.agg #[.int .i64 a0_0, .int .i64 a0_1, .slice A0_2 l0_2.length c0_2], .int .i64 a1] w fun e w' => e = .returned (.bool r) ∧ Below w.heap.size w w' := by
 induction k using Nat.strongRecOn with
 | _ k ih =>
 intro a0_0 a0_1 A0_2 c0_2 l0_2 a1 r w hr0_2 hc0_2 h
 cases k with
 | zero => exact absurd h (by simp [semigroupref04_Uses.f])
 | succ k =>
 simp only [semigroupref04_Uses.f] at h
 have hu24 := Try.underlying24
 have HR0_2 := Aside0.mk hr0_2
 have HC0_2 := Aside0.mk hc0_2
 clear hr0_2 hc0_2
 have HB := Aside0.mk (Below.refl w.heap.size w)
 have H : (if a0_0 = a1 then (some true) else (semigroupref04_Uses.l0 k a1 l0_2 (l0_2.length : Int) 0)) = some r := h
 clear h
 by_cases c3 : a0_0 = a1
 ·rw [if_pos c3] at H
  have c3b0 : (a0_0 == a1) = true := beq_iff_eq.mpr c3
  have c3b1 : (a0_0 != a1) = false := bne_eq_false_iff_eq.mpr c3
  clear c3
  obtain rfl := Option.some.inj H
  go_enter Try.func33, Try.ntmps33
  go_wp2_with (first | ((with_reducible refine gate_dst (N := 2) rfl ?_); refine box_event ?hg (N := 2) ?hd (cs := #[.int .i64 a0_0, .int .i64 a0_1, .slice A0_2 l0_2.length c0_2]) (t := 24) ?hr ?_; (case hd => rfl); (case hg => rfl); (case hr => first | (go_simp; done) | (go_simp; rfl)); intro gb415 hg w4 hbox hb; have n0_ := Aside0.mk (below_step (bB) hb); have n1_ := Aside0.mk (hbox); have n2_ := Aside0.mk ((by rw [hg]; exact (below_size (bB)) : w.heap.size ≤ gb415)); have n3_ := Aside0.mk ((by rw [hg]; exact (below_size (bB)) : w.heap.size ≤ gb415)); clear HB; have HB := n0_; have BK415 := n1_; have GW415 := n2_; have GE415 := n3_; clear n0_ n1_ n2_ n3_; clear hb hbox hg; have hcz5_0 : w4.cell? ⟨gb415, 0, none⟩ = some (.int .i64 a0_0) := (blk_cell BK415.out 0).trans rfl; have hcz5_1 : w4.cell? ⟨gb415, 1, none⟩ = some (.int .i64 a0_1) := (blk_cell BK415.out 1).trans rfl; have hcz5_2 : w4.cell? ⟨gb415, 2, none⟩ = some (.slice A0_2 l0_2.length c0_2) := (blk_cell BK415.out 2).trans rfl; have hfz5_0 := blk_frozen BK415.out 0; have hfz5_1 := blk_frozen BK415.out 1; have hfz5_2 := blk_frozen BK415.out 2))
  go_ret
  exact ⟨by first | rfl | (simp [errW_none, errW_some] <;> rfl) | (simp [*, errW_none, errW_some] <;> rfl), bB⟩
 ·rw [if_neg c3] at H
  have c3b0 : (a0_0 == a1) = false := beq_eq_false_iff_ne.mpr c3
  have c3b1 : (a0_0 != a1) = true := bne_iff_ne.mpr c3
  have H' := Aside0.mk H
  clear H
  go_enter Try.func33, Try.ntmps33
  go_wp2_with (first | ((with_reducible refine gate_dst (N := 2) rfl ?_); refine box_event ?hg (N := 2) ?hd (cs := #[.int .i64 a0_0, .int .i64 a0_1, .slice A0_2 l0_2.length c0_2]) (t := 24) ?hr ?_; (case hd => rfl); (case hg => rfl); (case hr => first | (go_simp; done) | (go_simp; rfl)); intro gb415 hg w6 hbox hb; have n0_ := Aside0.mk (below_step (bB) hb); have n1_ := Aside0.mk (hbox); have n2_ := Aside0.mk ((by rw [hg]; exact (below_size (bB)) : w.heap.size ≤ gb415)); have n3_ := Aside0.mk ((by rw [hg]; exact (below_size (bB)) : w.heap.size ≤ gb415)); clear HB; have HB := n0_; have BK415 := n1_; have GW415 := n2_; have GE415 := n3_; clear n0_ n1_ n2_ n3_; clear hb hbox hg; have hcz7_0 : w6.cell? ⟨gb415, 0, none⟩ = some (.int .i64 a0_0) := (blk_cell BK415.out 0).trans rfl; have hcz7_1 : w6.cell? ⟨gb415, 1, none⟩ = some (.int .i64 a0_1) := (blk_cell BK415.out 1).trans rfl; have hcz7_2 : w6.cell? ⟨gb415, 2, none⟩ = some (.slice A0_2 l0_2.length c0_2) := (blk_cell BK415.out 2).trans rfl; have hfz7_0 := blk_frozen BK415.out 0; have hfz7_1 := blk_frozen BK415.out 1; have hfz7_2 := blk_frozen BK415.out 2))
  go_loopg [14] k (fun kq v14 w' => ∃ (x14_1 : Int), v14 = .int .i64 x14_1 ∧ Aside0 (semigroupref04_Uses.l0 kq a1 l0_2 (l0_2.length : Int) x14_1 = some r) ∧ Aside0 (kq ≤ k) ∧ Aside0 (w'.heap[gb415]? = some (.cells #[.int .i64 a0_0, .int .i64 a0_1, (.slice A0_2 l0_2.length c0_2)] 24 (0, 0))) ∧ Aside0 (Below w.heap.size w w'))
  case atStart => exact ⟨(0), (by first | rfl | (simp; done) | (simp [*]; done)), H', ⟨Nat.le_refl _⟩, ⟨bK⟩, ⟨bB⟩⟩
  case round =>
   clear H'
   try clear p2
   try clear c3
   try clear c3b0
   try clear c3b1
   try clear hcz5_0
   try clear hcz5_1
   try clear hcz5_2
   try clear hcz7_0
   try clear hcz7_1
   try clear hcz7_2
   try clear hfz5_0
   try clear hfz5_1
   try clear hfz5_2
   try clear hfz7_0
   try clear hfz7_1
   try clear hfz7_2
   obtain ⟨x14_1, rfl, HA, HK1, BK415, HB⟩ := hrel
   cases gk with
   | zero => exact absurd HA.out (by simp [semigroupref04_Uses.l0])
   | succ k1 =>
    have H := HA.out
    clear HA
    simp only [semigroupref04_Uses.l0] at H
    by_cases c8 : x14_1 < (l0_2.length : Int)
    ·rw [if_pos c8] at H
     have c8b0 : decide (x14_1 < (l0_2.length : Int)) = true := decide_eq_true c8
     clear c8
     by_cases c9 : 0 ≤ x14_1
     ·rw [if_pos c9] at H
      have c9b0 : decide (0 ≤ x14_1) = true := decide_eq_true c9
      clear c9
      by_cases c10 : x14_1 < (l0_2.length : Int)
      ·rw [if_pos c10] at H
       have c10b0 : decide (x14_1 < (l0_2.length : Int)) = true := decide_eq_true c10
       clear c10
       replace H := Option.bind_eq_some_iff.mp H
       obtain ⟨t418, A110, H⟩ := H
       replace H : (if t418 = true then (some true) else (semigroupref04_Uses.l0 k1 a1 l0_2 (l0_2.length : Int) (wrap64 (x14_1 + 1)))) = some r := H
       have A11 := Aside0.mk A110
       clear A110
       by_cases c12 : t418 = true
       ·subst c12
        have H1 : (some true) = some r := by rw [if_pos rfl] at H; exact H
        clear H
        have H := H1
        clear H1
        obtain rfl := Option.some.inj H
        have p416 : 0 ≤ (x14_1 : Int) := of_decide_eq_true (by first | (with_reducible assumption) | assumption)
        have q416 : x14_1 < (l0_2.length : Int) := of_decide_eq_true (by first | (with_reducible assumption) | assumption)
        obtain ⟨ad416, A416_2, c416_2, e416, hx416_0, hx416_1, hx416_2, hl416_2, hi416_2⟩ := at_T24 HR0_2.out x14_1 p416 q416
        cases e416
        replace hx416_0 := (HB.out.cell (World.block_lt_of_cell? w _ hx416_0)).trans hx416_0
        replace hx416_1 := (HB.out.cell (World.block_lt_of_cell? w _ hx416_1)).trans hx416_1
        replace hx416_2 := (HB.out.cell (World.block_lt_of_cell? w _ hx416_2)).trans hx416_2
        have HR416_2 := Aside0.mk hi416_2
        have HC416_2 := Aside0.mk hl416_2
        clear hi416_2 hl416_2
        replace p416 := eq_true p416
        replace q416 := eq_true q416
        go_wp2_with (first | ((with_reducible refine gate_dst (N := 6) rfl ?_); refine box_event ?hg (N := 6) ?hd (cs := #[.int .i64 0, .int .i64 0, .slice none 0 0]) (t := 24) ?hr ?_; (case hd => rfl); (case hg => rfl); (case hr => first | (go_simp; done) | (go_simp; rfl)); intro gb417 hg w13 hbox hb; have n0_ := Aside0.mk (blk_below (g := gb415) (o := .cells #[.int .i64 a0_0, .int .i64 a0_1, .slice (some ad416) l0_2.length c0_2] 24 (0, 0)) (bK) hb); have n1_ := Aside0.mk (below_step (bB) hb); have n2_ := Aside0.mk (hbox); have n3_ := Aside0.mk ((by rw [hg]; exact (below_size (bB)) : w.heap.size ≤ gb417)); have n4_ := Aside0.mk ((by rw [hg]; exact (below_size (bB)) : w.heap.size ≤ gb417)); have n5_ := Aside0.mk ((by rw [hg]; exact Nat.ne_of_lt (blk_lt (g := gb415) (o := .cells #[.int .i64 a0_0, .int .i64 a0_1, .slice (some ad416) l0_2.length c0_2] 24 (0, 0)) (bK)) : gb415 ≠ gb417)); have n6_ := Aside0.mk ((by rw [hg]; exact Nat.ne_of_gt (blk_lt (g := gb415) (o := .cells #[.int .i64 a0_0, .int .i64 a0_1, .slice (some ad416) l0_2.length c0_2] 24 (0, 0)) (bK)) : gb417 ≠ gb415)); clear BK415; clear HB; have BK415 := n0_; have HB := n1_; have BK417 := n2_; have GW417 := n3_; have GE417 := n4_; have NB415_417 := n5_; have NB417_415 := n6_; clear n0_ n1_ n2_ n3_ n4_ n5_ n6_; clear hb hbox hg; have hnb14 := NB417_415.out; have hnc14 := NB415_417.out; have hcz15_0 : w13.cell? ⟨gb417, 0, none⟩ = some (.int .i64 0) := (blk_cell BK417.out 0).trans rfl; have hcz15_1 : w13.cell? ⟨gb417, 1, none⟩ = some (.int .i64 0) := (blk_cell BK417.out 1).trans rfl; have hcz15_2 : w13.cell? ⟨gb417, 2, none⟩ = some (.slice none 0 0) := (blk_cell BK417.out 2).trans rfl; have hfz15_0 := blk_frozen BK417.out 0; have hfz15_1 := blk_frozen BK417.out 1; have hfz15_2 := blk_frozen BK417.out 2) | ((with_reducible refine gate_callee (f := 33) rfl ?_); refine goesL_ (some 20) rfl rfl Try.func33 (by kernel_rfl) rfl #[.agg #[.int .i64 ((rd_T24 l0_2 x14_1).f0), .int .i64 ((rd_T24 l0_2 x14_1).f1), .slice A416_2 ((rd_T24 l0_2 x14_1).f2).length c416_2], .int .i64 a1] rfl (by (try simp only [List.map_toArray, List.map_cons, List.map_nil]); first | done | rfl | (simp only [List.length_drop, List.length_take]; rfl) | (simp only [Int.ofNat_lt, Int.ofNat_le]; rfl)) ?_; (with_reducible refine (ih k1 (by have := HK1.out; omega) ((rd_T24 l0_2 x14_1).f0) ((rd_T24 l0_2 x14_1).f1) _ _ ((rd_T24 l0_2 x14_1).f2) a1 true _ ?side1 ?side2 A11.out).mono ?_); (case side1 => exact Kd.C_below HR416_2.out (bB)); (case side2 => exact HC416_2.out); rintro e w16 ⟨rfl, hb⟩; refine ⟨_, rfl, ?_⟩; have n0_ := Aside0.mk (blk_below (g := gb415) (o := .cells #[.int .i64 a0_0, .int .i64 a0_1, .slice (some ad416) l0_2.length c0_2] 24 (0, 0)) (by (with_reducible repeat (first | refine blk_drewN ?_ _ | refine blk_drew ?_ | refine blk_alloc ?_ _)); refine blk_far ?_ NB415_417.out _; (with_reducible repeat (first | refine blk_drewN ?_ _ | refine blk_drew ?_ | refine blk_alloc ?_ _)); refine blk_far ?_ NB415_417.out _; (with_reducible repeat (first | refine blk_drewN ?_ _ | refine blk_drew ?_ | refine blk_alloc ?_ _)); refine blk_far ?_ NB415_417.out _; (with_reducible repeat (first | refine blk_drewN ?_ _ | refine blk_drew ?_ | refine blk_alloc ?_ _)); exact BK415.out) hb); have n1_ := Aside0.mk (blk_below (g := gb417) (o := .cells #[.int .i64 ((rd_T24 l0_2 x14_1).f0), .int .i64 ((rd_T24 l0_2 x14_1).f1), .slice A416_2 ((rd_T24 l0_2 x14_1).f2).length c416_2] 24 (0, 0)) (by (with_reducible repeat (first | refine blk_drewN ?_ _ | refine blk_drew ?_ | refine blk_alloc ?_ _)); refine blk_put (cs := #[.int .i64 ((rd_T24 l0_2 x14_1).f0), .int .i64 ((rd_T24 l0_2 x14_1).f1), .slice none 0 0]) ?_ 2 _ rfl; (with_reducible repeat (first | refine blk_drewN ?_ _ | refine blk_drew ?_ | refine blk_alloc ?_ _)); refine blk_put (cs := #[.int .i64 ((rd_T24 l0_2 x14_1).f0), .int .i64 0, .slice none 0 0]) ?_ 1 _ rfl; (with_reducible repeat (first | refine blk_drewN ?_ _ | refine blk_drew ?_ | refine blk_alloc ?_ _)); refine blk_put (cs := #[.int .i64 0, .int .i64 0, .slice none 0 0]) ?_ 0 _ rfl; (with_reducible repeat (first | refine blk_drewN ?_ _ | refine blk_drew ?_ | refine blk_alloc ?_ _)); exact BK417.out) hb); have n2_ := Aside0.mk (below_step (bB) hb); clear BK415; clear BK417; clear HB; have BK415 := n0_; have BK417 := n1_; have HB := n2_; clear n0_ n1_ n2_; (try clear hb); (try clear hb2); (try clear hk); (try clear hi)))
        go_ret
        exact ⟨by first | rfl | (simp [errW_none, errW_some] <;> rfl) | (simp [*, errW_none, errW_some] <;> rfl), bB⟩
       ·replace c12 := Bool.eq_false_iff.mpr c12
        subst c12
        have H1 : (semigroupref04_Uses.l0 k1 a1 l0_2 (l0_2.length : Int) (wrap64 (x14_1 + 1))) = some r := by rw [if_neg (show ¬ (false = true) by decide)] at H; exact H
        clear H
        have H := H1
        clear H1
        have H' := Aside0.mk H
        clear H
        have p416 : 0 ≤ (x14_1 : Int) := of_decide_eq_true (by first | (with_reducible assumption) | assumption)
        have q416 : x14_1 < (l0_2.length : Int) := of_decide_eq_true (by first | (with_reducible assumption) | assumption)
        obtain ⟨ad416, A416_2, c416_2, e416, hx416_0, hx416_1, hx416_2, hl416_2, hi416_2⟩ := at_T24 HR0_2.out x14_1 p416 q416
        cases e416
        replace hx416_0 := (HB.out.cell (World.block_lt_of_cell? w _ hx416_0)).trans hx416_0
        replace hx416_1 := (HB.out.cell (World.block_lt_of_cell? w _ hx416_1)).trans hx416_1
        replace hx416_2 := (HB.out.cell (World.block_lt_of_cell? w _ hx416_2)).trans hx416_2
        have HR416_2 := Aside0.mk hi416_2
        have HC416_2 := Aside0.mk hl416_2
        clear hi416_2 hl416_2
        replace p416 := eq_true p416
        replace q416 := eq_true q416
        go_wp2_with (first | ((with_reducible refine gate_dst (N := 6) rfl ?_); refine box_event ?hg (N := 6) ?hd (cs := #[.int .i64 0, .int .i64 0, .slice none 0 0]) (t := 24) ?hr ?_; (case hd => rfl); (case hg => rfl); (case hr => first | (go_simp; done) | (go_simp; rfl)); intro gb417 hg w17 hbox hb; have n0_ := Aside0.mk (blk_below (g := gb415) (o := .cells #[.int .i64 a0_0, .int .i64 a0_1, .slice (some ad416) l0_2.length c0_2] 24 (0, 0)) (bK) hb); have n1_ := Aside0.mk (below_step (bB) hb); have n2_ := Aside0.mk (hbox); have n3_ := Aside0.mk ((by rw [hg]; exact (below_size (bB)) : w.heap.size ≤ gb417)); have n4_ := Aside0.mk ((by rw [hg]; exact (below_size (bB)) : w.heap.size ≤ gb417)); have n5_ := Aside0.mk ((by rw [hg]; exact Nat.ne_of_lt (blk_lt (g := gb415) (o := .cells #[.int .i64 a0_0, .int .i64 a0_1, .slice (some ad416) l0_2.length c0_2] 24 (0, 0)) (bK)) : gb415 ≠ gb417)); have n6_ := Aside0.mk ((by rw [hg]; exact Nat.ne_of_gt (blk_lt (g := gb415) (o := .cells #[.int .i64 a0_0, .int .i64 a0_1, .slice (some ad416) l0_2.length c0_2] 24 (0, 0)) (bK)) : gb417 ≠ gb415)); clear BK415; clear HB; have BK415 := n0_; have HB := n1_; have BK417 := n2_; have GW417 := n3_; have GE417 := n4_; have NB415_417 := n5_; have NB417_415 := n6_; clear n0_ n1_ n2_ n3_ n4_ n5_ n6_; clear hb hbox hg; have hnb18 := NB417_415.out; have hnc18 := NB415_417.out; have hcz19_0 : w17.cell? ⟨gb417, 0, none⟩ = some (.int .i64 0) := (blk_cell BK417.out 0).trans rfl; have hcz19_1 : w17.cell? ⟨gb417, 1, none⟩ = some (.int .i64 0) := (blk_cell BK417.out 1).trans rfl; have hcz19_2 : w17.cell? ⟨gb417, 2, none⟩ = some (.slice none 0 0) := (blk_cell BK417.out 2).trans rfl; have hfz19_0 := blk_frozen BK417.out 0; have hfz19_1 := blk_frozen BK417.out 1; have hfz19_2 := blk_frozen BK417.out 2) | ((with_reducible refine gate_callee (f := 33) rfl ?_); refine goesL_ (some 20) rfl rfl Try.func33 (by kernel_rfl) rfl #[.agg #[.int .i64 ((rd_T24 l0_2 x14_1).f0), .int .i64 ((rd_T24 l0_2 x14_1).f1), .slice A416_2 ((rd_T24 l0_2 x14_1).f2).length c416_2], .int .i64 a1] rfl (by (try simp only [List.map_toArray, List.map_cons, List.map_nil]); first | done | rfl | (simp only [List.length_drop, List.length_take]; rfl) | (simp only [Int.ofNat_lt, Int.ofNat_le]; rfl)) ?_; (with_reducible refine (ih k1 (by have := HK1.out; omega) ((rd_T24 l0_2 x14_1).f0) ((rd_T24 l0_2 x14_1).f1) _ _ ((rd_T24 l0_2 x14_1).f2) a1 false _ ?side1 ?side2 A11.out).mono ?_); (case side1 => exact Kd.C_below HR416_2.out (bB)); (case side2 => exact HC416_2.out); rintro e w20 ⟨rfl, hb⟩; refine ⟨_, rfl, ?_⟩; have n0_ := Aside0.mk (blk_below (g := gb415) (o := .cells #[.int .i64 a0_0, .int .i64 a0_1, .slice (some ad416) l0_2.length c0_2] 24 (0, 0)) (by (with_reducible repeat (first | refine blk_drewN ?_ _ | refine blk_drew ?_ | refine blk_alloc ?_ _)); refine blk_far ?_ NB415_417.out _; (with_reducible repeat (first | refine blk_drewN ?_ _ | refine blk_drew ?_ | refine blk_alloc ?_ _)); refine blk_far ?_ NB415_417.out _; (with_reducible repeat (first | refine blk_drewN ?_ _ | refine blk_drew ?_ | refine blk_alloc ?_ _)); refine blk_far ?_ NB415_417.out _; (with_reducible repeat (first | refine blk_drewN ?_ _ | refine blk_drew ?_ | refine blk_alloc ?_ _)); exact BK415.out) hb); have n1_ := Aside0.mk (blk_below (g := gb417) (o := .cells #[.int .i64 ((rd_T24 l0_2 x14_1).f0), .int .i64 ((rd_T24 l0_2 x14_1).f1), .slice A416_2 ((rd_T24 l0_2 x14_1).f2).length c416_2] 24 (0, 0)) (by (with_reducible repeat (first | refine blk_drewN ?_ _ | refine blk_drew ?_ | refine blk_alloc ?_ _)); refine blk_put (cs := #[.int .i64 ((rd_T24 l0_2 x14_1).f0), .int .i64 ((rd_T24 l0_2 x14_1).f1), .slice none 0 0]) ?_ 2 _ rfl; (with_reducible repeat (first | refine blk_drewN ?_ _ | refine blk_drew ?_ | refine blk_alloc ?_ _)); refine blk_put (cs := #[.int .i64 ((rd_T24 l0_2 x14_1).f0), .int .i64 0, .slice none 0 0]) ?_ 1 _ rfl; (with_reducible repeat (first | refine blk_drewN ?_ _ | refine blk_drew ?_ | refine blk_alloc ?_ _)); refine blk_put (cs := #[.int .i64 0, .int .i64 0, .slice none 0 0]) ?_ 0 _ rfl; (with_reducible repeat (first | refine blk_drewN ?_ _ | refine blk_drew ?_ | refine blk_alloc ?_ _)); exact BK417.out) hb); have n2_ := Aside0.mk (below_step (bB) hb); clear BK415; clear BK417; clear HB; have BK415 := n0_; have BK417 := n1_; have HB := n2_; clear n0_ n1_ n2_; (try clear hb); (try clear hb2); (try clear hk); (try clear hi)))
        (first | go_roundg k1 | ((simp only [add_plain] at *); go_roundg k1))
        case measure => have := HK1.out; omega
        case rel => exact ⟨(wrap64 (x14_1 + 1)), (by first | rfl | (simp; done) | (simp [*]; done)), H', ⟨by have := HK1.out; omega⟩, ⟨bK⟩, ⟨bB⟩⟩
      ·rw [if_neg c10] at H
       exact absurd H (by simp)
     ·rw [if_neg c9] at H
      exact absurd H (by simp)
    ·rw [if_neg c8] at H
     have c8b0 : decide (x14_1 < (l0_2.length : Int)) = false := decide_eq_false c8
     clear c8
     obtain rfl := Option.some.inj H
     go_wp2
     go_ret
     exact ⟨by first | rfl | (simp [errW_none, errW_some] <;> rfl) | (simp [*, errW_none, errW_some] <;> rfl), bB⟩
end Go.Proofs.Ytjofkebiacaciaa.PAll
end
section
namespace Go.Proofs.Ytjofkebiacaciaa.PAll
open Go.RowKit Go.Proofs.YtjofkebiacaciaaW.PrintWords Go.Proofs.YtjofkebiacaciaaW.PrintLast Go.Proofs.YtjofkebiacaciaaW.PrintMore
attribute [local go_sem] max2_int min2_int max_two min_two max_three min_three max_four min_four
set_option linter.unusedVariables false
set_option linter.unusedSimpArgs false
mutual
def semigroupref04_Nullable.l0 : Nat → Bool → Bool → List (S24) → Int → Int → Int → Int → List (S24) → Option (Bool)
 | 0, _, _, _, _, _, _, _, _ => none
 | k + 1, x3, x4, x9, x10, x11, x420000, x420001, x420002 => if x11 < x10 then (if 0 ≤ x11 then (if x11 < (x9.length : Int) then ((semigroupref04_Nullable.f k ((rd_T24 x9 x11).f0) ((rd_T24 x9 x11).f1) ((rd_T24 x9 x11).f2)).bind fun t422 => (if x3 = true then (if x4 = true then (semigroupref04_Nullable.l0 k t422 true x9 x10 (wrap64 (x11 + 1)) x420000 x420001 x420002) else (semigroupref04_Nullable.l0 k t422 t422 x9 x10 (wrap64 (x11 + 1)) x420000 x420001 x420002)) else (if x4 = true then (semigroupref04_Nullable.l0 k false true x9 x10 (wrap64 (x11 + 1)) x420000 x420001 x420002) else (semigroupref04_Nullable.l0 k false t422 x9 x10 (wrap64 (x11 + 1)) x420000 x420001 x420002)))) else (none)) else (none)) else (if x420000 = 2 then (semigroupref04_Nullable.j1 k x3 x4 x420000 (x420000 == 2)) else (semigroupref04_Nullable.j1 k x3 x4 x420000 (x420000 == 7)))
def semigroupref04_Nullable.j1 : Nat → Bool → Bool → Int → Bool → Option (Bool)
 | 0, _, _, _, _ => none
 | k + 1, x3, x4, x27, x28 => if x28 = true then (some true) else (if x27 = 4 then (some x4) else (if x27 = 5 then (semigroupref04_Nullable.j2 k x3 x4 x27 (x27 == 5)) else (semigroupref04_Nullable.j2 k x3 x4 x27 (x27 == 6))))
def semigroupref04_Nullable.j2 : Nat → Bool → Bool → Int → Bool → Option (Bool)
 | 0, _, _, _, _ => none
 | k + 1, x3, x4, x27, x34 => if x34 = true then (some x3) else (if x27 = 8 then (some (!x4)) else (some false))
def semigroupref04_Nullable.f : Nat → Int → Int → List (S24) → Option (Bool)
 | 0, _, _, _ => none
 | k + 1, a0_0, a0_1, l0_2 => semigroupref04_Nullable.l0 k true false l0_2 (l0_2.length : Int) 0 a0_0 a0_1 l0_2
end
theorem semigroupref04_Nullable.mono_l : ∀ k, (∀ y0 y1 y2, LeO (semigroupref04_Nullable.f k y0 y1 y2) (semigroupref04_Nullable.f (k + 1) y0 y1 y2)) ∧ (∀ y0 y1 y2 y3 y4 y5 y6 y7, LeO (semigroupref04_Nullable.l0 k y0 y1 y2 y3 y4 y5 y6 y7) (semigroupref04_Nullable.l0 (k + 1) y0 y1 y2 y3 y4 y5 y6 y7)) ∧ (∀ y0 y1 y2 y3, LeO (semigroupref04_Nullable.j1 k y0 y1 y2 y3) (semigroupref04_Nullable.j1 (k + 1) y0 y1 y2 y3)) ∧ (∀ y0 y1 y2 y3, LeO (semigroupref04_Nullable.j2 k y0 y1 y2 y3) (semigroupref04_Nullable.j2 (k + 1) y0 y1 y2 y3))
 | 0 => ⟨fun _ _ _ r h => by simp [semigroupref04_Nullable.f] at h, fun _ _ _ _ _ _ _ _ r h => by simp [semigroupref04_Nullable.l0] at h, fun _ _ _ _ r h => by simp [semigroupref04_Nullable.j1] at h, fun _ _ _ _ r h => by simp [semigroupref04_Nullable.j2] at h⟩
 | k + 1 => by
  obtain ⟨ih0, ih1, ih2, ih3⟩ := semigroupref04_Nullable.mono_l k
  refine ⟨?_, ?_, ?_, ?_⟩
  ·intro y0 y1 y2
   unfold semigroupref04_Nullable.f
   repeat' first
   | (with_reducible exact ih0 _ _ _)
   | (with_reducible exact ih1 _ _ _ _ _ _ _ _)
   | (with_reducible exact ih2 _ _ _ _)
   | (with_reducible exact ih3 _ _ _ _)
   | (with_reducible exact LeO.refl _)
   | (with_reducible exact LeO.none _)
   | (with_reducible refine LeO.ite ?_ ?_)
   | (with_reducible refine LeO.bind ?_ (fun _ => ?_))
   | exact ih0 _ _ _
   | exact ih1 _ _ _ _ _ _ _ _
   | exact ih2 _ _ _ _
   | exact ih3 _ _ _ _
   | exact LeO.none _
   | refine LeO.ite ?_ ?_
   | refine LeO.bind ?_ (fun _ => ?_)
  ·intro y0 y1 y2 y3 y4 y5 y6 y7
   unfold semigroupref04_Nullable.l0
   repeat' first
   | (with_reducible exact ih0 _ _ _)
   | (with_reducible exact ih1 _ _ _ _ _ _ _ _)
   | (with_reducible exact ih2 _ _ _ _)
   | (with_reducible exact ih3 _ _ _ _)
   | (with_reducible exact LeO.refl _)
   | (with_reducible exact LeO.none _)
   | (with_reducible refine LeO.ite ?_ ?_)
   | (with_reducible refine LeO.bind ?_ (fun _ => ?_))
   | exact ih0 _ _ _
   | exact ih1 _ _ _ _ _ _ _ _
   | exact ih2 _ _ _ _
   | exact ih3 _ _ _ _
   | exact LeO.none _
   | refine LeO.ite ?_ ?_
   | refine LeO.bind ?_ (fun _ => ?_)
  ·intro y0 y1 y2 y3
   unfold semigroupref04_Nullable.j1
   repeat' first
   | (with_reducible exact ih0 _ _ _)
   | (with_reducible exact ih1 _ _ _ _ _ _ _ _)
   | (with_reducible exact ih2 _ _ _ _)
   | (with_reducible exact ih3 _ _ _ _)
   | (with_reducible exact LeO.refl _)
   | (with_reducible exact LeO.none _)
   | (with_reducible refine LeO.ite ?_ ?_)
   | (with_reducible refine LeO.bind ?_ (fun _ => ?_))
   | exact ih0 _ _ _
   | exact ih1 _ _ _ _ _ _ _ _
   | exact ih2 _ _ _ _
   | exact ih3 _ _ _ _
   | exact LeO.none _
   | refine LeO.ite ?_ ?_
   | refine LeO.bind ?_ (fun _ => ?_)
  ·intro y0 y1 y2 y3
   unfold semigroupref04_Nullable.j2
   repeat' first
   | (with_reducible exact ih0 _ _ _)
   | (with_reducible exact ih1 _ _ _ _ _ _ _ _)
   | (with_reducible exact ih2 _ _ _ _)
   | (with_reducible exact ih3 _ _ _ _)
   | (with_reducible exact LeO.refl _)
   | (with_reducible exact LeO.none _)
   | (with_reducible refine LeO.ite ?_ ?_)
   | (with_reducible refine LeO.bind ?_ (fun _ => ?_))
   | exact ih0 _ _ _
   | exact ih1 _ _ _ _ _ _ _ _
   | exact ih2 _ _ _ _
   | exact ih3 _ _ _ _
   | exact LeO.none _
   | refine LeO.ite ?_ ?_
   | refine LeO.bind ?_ (fun _ => ?_)
theorem semigroupref04_Nullable.mono : ∀ a0 a1 a2 k, LeO (semigroupref04_Nullable.f k a0 a1 a2) (semigroupref04_Nullable.f (k + 1) a0 a1 a2) := by
 intro a0 a1 a2 k
 obtain ⟨ih0, ih1, ih2, ih3⟩ := semigroupref04_Nullable.mono_l k
 exact ih0 a0 a1 a2
set_option maxHeartbeats 8000000 in
set_option maxRecDepth 100000 in
theorem semigroupref04_Nullable.calls (k : Nat) : ∀ (a0_0 : Int) (a0_1 : Int) (A0_2 : Option Addr) (c0_2 : Nat) (l0_2 : List (S24)) (r : Bool) (w : World) (hr0_2 : Kd.C k24 w A0_2 l0_2.length l0_2) (hc0_2 : l0_2.length ≤ c0_2) (h : semigroupref04_Nullable.f k a0_0 a0_1 l0_2 = some r),
  Calls Try.prog 34 #[.agg #[.int .i64 a0_0, .int .i64 a0_1, .slice A0_2 l0_2.length c0_2]] w fun e w' => e = .returned (.bool r) ∧ Below w.heap.size w w' := by
 induction k using Nat.strongRecOn with
 | _ k ih =>
 intro a0_0 a0_1 A0_2 c0_2 l0_2 r w hr0_2 hc0_2 h
 cases k with
 | zero => exact absurd h (by simp [semigroupref04_Nullable.f])
 | succ k =>
 simp only [semigroupref04_Nullable.f] at h
 have hu24 := Try.underlying24
 have HR0_2 := Aside0.mk hr0_2
 have HC0_2 := Aside0.mk hc0_2
 clear hr0_2 hc0_2
 have HB := Aside0.mk (Below.refl w.heap.size w)
 have H : (semigroupref04_Nullable.l0 k true false l0_2 (l0_2.length : Int) 0 a0_0 a0_1 l0_2) = some r := h
 clear h
 have H' := Aside0.mk H
 clear H
 go_enter Try.func34, Try.ntmps34
 go_wp2_with (first | ((with_reducible refine gate_dst (N := 1) rfl ?_); refine box_event ?hg (N := 1) ?hd (cs := #[.int .i64 a0_0, .int .i64 a0_1, .slice A0_2 l0_2.length c0_2]) (t := 24) ?hr ?_; (case hd => rfl); (case hg => rfl); (case hr => first | (go_simp; done) | (go_simp; rfl)); intro gb419 hg w2 hbox hb; have n0_ := Aside0.mk (below_step (bB) hb); have n1_ := Aside0.mk (hbox); have n2_ := Aside0.mk ((by rw [hg]; exact (below_size (bB)) : w.heap.size ≤ gb419)); have n3_ := Aside0.mk ((by rw [hg]; exact (below_size (bB)) : w.heap.size ≤ gb419)); clear HB; have HB := n0_; have BK419 := n1_; have GW419 := n2_; have GE419 := n3_; clear n0_ n1_ n2_ n3_; clear hb hbox hg; have hcz3_0 : w2.cell? ⟨gb419, 0, none⟩ = some (.int .i64 a0_0) := (blk_cell BK419.out 0).trans rfl; have hcz3_1 : w2.cell? ⟨gb419, 1, none⟩ = some (.int .i64 a0_1) := (blk_cell BK419.out 1).trans rfl; have hcz3_2 : w2.cell? ⟨gb419, 2, none⟩ = some (.slice A0_2 l0_2.length c0_2) := (blk_cell BK419.out 2).trans rfl; have hfz3_0 := blk_frozen BK419.out 0; have hfz3_1 := blk_frozen BK419.out 1; have hfz3_2 := blk_frozen BK419.out 2))
 go_loopg [3, 4, 11] k (fun kq v3 v4 v11 w' => ∃ (x3_1 : Bool) (x4_1 : Bool) (x11_1 : Int), v3 = .bool x3_1 ∧ v4 = .bool x4_1 ∧ v11 = .int .i64 x11_1 ∧ Aside0 (semigroupref04_Nullable.l0 kq x3_1 x4_1 l0_2 (l0_2.length : Int) x11_1 a0_0 a0_1 l0_2 = some r) ∧ Aside0 (kq ≤ k) ∧ Aside0 (w'.heap[gb419]? = some (.cells #[.int .i64 a0_0, .int .i64 a0_1, (.slice A0_2 l0_2.length c0_2)] 24 (0, 0))) ∧ Aside0 (Below w.heap.size w w'))
 case atStart => exact ⟨(true), (false), (0), (by first | rfl | (simp; done) | (simp [*]; done)), (by first | rfl | (simp; done) | (simp [*]; done)), (by first | rfl | (simp; done) | (simp [*]; done)), H', ⟨Nat.le_refl _⟩, ⟨bK⟩, ⟨bB⟩⟩
 case round =>
  clear H'
  try clear p2
  try clear c3
  try clear hcz3_0
  try clear hcz3_1
  try clear hcz3_2
  try clear hfz3_0
  try clear hfz3_1
  try clear hfz3_2
  obtain ⟨x3_1, x4_1, x11_1, rfl, rfl, rfl, HA, HK1, BK419, HB⟩ := hrel
  cases gk with
  | zero => exact absurd HA.out (by simp [semigroupref04_Nullable.l0])
  | succ k1 =>
   have H := HA.out
   clear HA
   simp only [semigroupref04_Nullable.l0] at H
   by_cases c4 : x11_1 < (l0_2.length : Int)
   ·rw [if_pos c4] at H
    have c4b0 : decide (x11_1 < (l0_2.length : Int)) = true := decide_eq_true c4
    clear c4
    by_cases c5 : 0 ≤ x11_1
    ·rw [if_pos c5] at H
     have c5b0 : decide (0 ≤ x11_1) = true := decide_eq_true c5
     clear c5
     by_cases c6 : x11_1 < (l0_2.length : Int)
     ·rw [if_pos c6] at H
      have c6b0 : decide (x11_1 < (l0_2.length : Int)) = true := decide_eq_true c6
      clear c6
      replace H := Option.bind_eq_some_iff.mp H
      obtain ⟨t422, A70, H⟩ := H
      replace H : (if x3_1 = true then (if x4_1 = true then (semigroupref04_Nullable.l0 k1 t422 true l0_2 (l0_2.length : Int) (wrap64 (x11_1 + 1)) a0_0 a0_1 l0_2) else (semigroupref04_Nullable.l0 k1 t422 t422 l0_2 (l0_2.length : Int) (wrap64 (x11_1 + 1)) a0_0 a0_1 l0_2)) else (if x4_1 = true then (semigroupref04_Nullable.l0 k1 false true l0_2 (l0_2.length : Int) (wrap64 (x11_1 + 1)) a0_0 a0_1 l0_2) else (semigroupref04_Nullable.l0 k1 false t422 l0_2 (l0_2.length : Int) (wrap64 (x11_1 + 1)) a0_0 a0_1 l0_2))) = some r := H
      have A7 := Aside0.mk A70
      clear A70
      by_cases c8 : x3_1 = true
      ·subst c8
       have H1 : (if x4_1 = true then (semigroupref04_Nullable.l0 k1 t422 true l0_2 (l0_2.length : Int) (wrap64 (x11_1 + 1)) a0_0 a0_1 l0_2) else (semigroupref04_Nullable.l0 k1 t422 t422 l0_2 (l0_2.length : Int) (wrap64 (x11_1 + 1)) a0_0 a0_1 l0_2)) = some r := by rw [if_pos rfl] at H; exact H
       clear H
       have H := H1
       clear H1
       by_cases c9 : x4_1 = true
       ·subst c9
        have H1 : (semigroupref04_Nullable.l0 k1 t422 true l0_2 (l0_2.length : Int) (wrap64 (x11_1 + 1)) a0_0 a0_1 l0_2) = some r := by rw [if_pos rfl] at H; exact H
        clear H
        have H := H1
        clear H1
        have H' := Aside0.mk H
        clear H
        have p420 : 0 ≤ (x11_1 : Int) := of_decide_eq_true (by first | (with_reducible assumption) | assumption)
        have q420 : x11_1 < (l0_2.length : Int) := of_decide_eq_true (by first | (with_reducible assumption) | assumption)
        obtain ⟨ad420, A420_2, c420_2, e420, hx420_0, hx420_1, hx420_2, hl420_2, hi420_2⟩ := at_T24 HR0_2.out x11_1 p420 q420
        cases e420
        replace hx420_0 := (HB.out.cell (World.block_lt_of_cell? w _ hx420_0)).trans hx420_0
        replace hx420_1 := (HB.out.cell (World.block_lt_of_cell? w _ hx420_1)).trans hx420_1
        replace hx420_2 := (HB.out.cell (World.block_lt_of_cell? w _ hx420_2)).trans hx420_2
        have HR420_2 := Aside0.mk hi420_2
        have HC420_2 := Aside0.mk hl420_2
        clear hi420_2 hl420_2
        replace p420 := eq_true p420
        replace q420 := eq_true q420
        go_wp2_with (first | ((with_reducible refine gate_dst (N := 6) rfl ?_); refine box_event ?hg (N := 6) ?hd (cs := #[.int .i64 0, .int .i64 0, .slice none 0 0]) (t := 24) ?hr ?_; (case hd => rfl); (case hg => rfl); (case hr => first | (go_simp; done) | (go_simp; rfl)); intro gb421 hg w10 hbox hb; have n0_ := Aside0.mk (blk_below (g := gb419) (o := .cells #[.int .i64 a0_0, .int .i64 a0_1, .slice (some ad420) l0_2.length c0_2] 24 (0, 0)) (bK) hb); have n1_ := Aside0.mk (below_step (bB) hb); have n2_ := Aside0.mk (hbox); have n3_ := Aside0.mk ((by rw [hg]; exact (below_size (bB)) : w.heap.size ≤ gb421)); have n4_ := Aside0.mk ((by rw [hg]; exact (below_size (bB)) : w.heap.size ≤ gb421)); have n5_ := Aside0.mk ((by rw [hg]; exact Nat.ne_of_lt (blk_lt (g := gb419) (o := .cells #[.int .i64 a0_0, .int .i64 a0_1, .slice (some ad420) l0_2.length c0_2] 24 (0, 0)) (bK)) : gb419 ≠ gb421)); have n6_ := Aside0.mk ((by rw [hg]; exact Nat.ne_of_gt (blk_lt (g := gb419) (o := .cells #[.int .i64 a0_0, .int .i64 a0_1, .slice (some ad420) l0_2.length c0_2] 24 (0, 0)) (bK)) : gb421 ≠ gb419)); clear BK419; clear HB; have BK419 := n0_; have HB := n1_; have BK421 := n2_; have GW421 := n3_; have GE421 := n4_; have NB419_421 := n5_; have NB421_419 := n6_; clear n0_ n1_ n2_ n3_ n4_ n5_ n6_; clear hb hbox hg; have hnb11 := NB421_419.out; have hnc11 := NB419_421.out; have hcz12_0 : w10.cell? ⟨gb421, 0, none⟩ = some (.int .i64 0) := (blk_cell BK421.out 0).trans rfl; have hcz12_1 : w10.cell? ⟨gb421, 1, none⟩ = some (.int .i64 0) := (blk_cell BK421.out 1).trans rfl; have hcz12_2 : w10.cell? ⟨gb421, 2, none⟩ = some (.slice none 0 0) := (blk_cell BK421.out 2).trans rfl; have hfz12_0 := blk_frozen BK421.out 0; have hfz12_1 := blk_frozen BK421.out 1; have hfz12_2 := blk_frozen BK421.out 2) | ((with_reducible refine gate_callee (f := 34) rfl ?_); refine goesL_ (some 16) rfl rfl Try.func34 (by kernel_rfl) rfl #[.agg #[.int .i64 ((rd_T24 l0_2 x11_1).f0), .int .i64 ((rd_T24 l0_2 x11_1).f1), .slice A420_2 ((rd_T24 l0_2 x11_1).f2).length c420_2]] rfl (by (try simp only [List.map_toArray, List.map_cons, List.map_nil]); first | done | rfl | (simp only [List.length_drop, List.length_take]; rfl) | (simp only [Int.ofNat_lt, Int.ofNat_le]; rfl)) ?_; (with_reducible refine (ih k1 (by have := HK1.out; omega) ((rd_T24 l0_2 x11_1).f0) ((rd_T24 l0_2 x11_1).f1) _ _ ((rd_T24 l0_2 x11_1).f2) t422 _ ?side1 ?side2 A7.out).mono ?_); (case side1 => exact Kd.C_below HR420_2.out (bB)); (case side2 => exact HC420_2.out); rintro e w13 ⟨rfl, hb⟩; refine ⟨_, rfl, ?_⟩; have n0_ := Aside0.mk (blk_below (g := gb419) (o := .cells #[.int .i64 a0_0, .int .i64 a0_1, .slice (some ad420) l0_2.length c0_2] 24 (0, 0)) (by (with_reducible repeat (first | refine blk_drewN ?_ _ | refine blk_drew ?_ | refine blk_alloc ?_ _)); refine blk_far ?_ NB419_421.out _; (with_reducible repeat (first | refine blk_drewN ?_ _ | refine blk_drew ?_ | refine blk_alloc ?_ _)); refine blk_far ?_ NB419_421.out _; (with_reducible repeat (first | refine blk_drewN ?_ _ | refine blk_drew ?_ | refine blk_alloc ?_ _)); refine blk_far ?_ NB419_421.out _; (with_reducible repeat (first | refine blk_drewN ?_ _ | refine blk_drew ?_ | refine blk_alloc ?_ _)); exact BK419.out) hb); have n1_ := Aside0.mk (blk_below (g := gb421) (o := .cells #[.int .i64 ((rd_T24 l0_2 x11_1).f0), .int .i64 ((rd_T24 l0_2 x11_1).f1), .slice A420_2 ((rd_T24 l0_2 x11_1).f2).length c420_2] 24 (0, 0)) (by (with_reducible repeat (first | refine blk_drewN ?_ _ | refine blk_drew ?_ | refine blk_alloc ?_ _)); refine blk_put (cs := #[.int .i64 ((rd_T24 l0_2 x11_1).f0), .int .i64 ((rd_T24 l0_2 x11_1).f1), .slice none 0 0]) ?_ 2 _ rfl; (with_reducible repeat (first | refine blk_drewN ?_ _ | refine blk_drew ?_ | refine blk_alloc ?_ _)); refine blk_put (cs := #[.int .i64 ((rd_T24 l0_2 x11_1).f0), .int .i64 0, .slice none 0 0]) ?_ 1 _ rfl; (with_reducible repeat (first | refine blk_drewN ?_ _ | refine blk_drew ?_ | refine blk_alloc ?_ _)); refine blk_put (cs := #[.int .i64 0, .int .i64 0, .slice none 0 0]) ?_ 0 _ rfl; (with_reducible repeat (first | refine blk_drewN ?_ _ | refine blk_drew ?_ | refine blk_alloc ?_ _)); exact BK421.out) hb); have n2_ := Aside0.mk (below_step (bB) hb); clear BK419; clear BK421; clear HB; have BK419 := n0_; have BK421 := n1_; have HB := n2_; clear n0_ n1_ n2_; (try clear hb); (try clear hb2); (try clear hk); (try clear hi)))
        (first | go_roundg k1 | ((simp only [add_plain] at *); go_roundg k1))
        case measure => have := HK1.out; omega
        case rel => exact ⟨(t422), (true), (wrap64 (x11_1 + 1)), (by first | rfl | (simp; done) | (simp [*]; done)), (by first | rfl | (simp; done) | (simp [*]; done)), (by first | rfl | (simp; done) | (simp [*]; done)), H', ⟨by have := HK1.out; omega⟩, ⟨bK⟩, ⟨bB⟩⟩
       ·replace c9 := Bool.eq_false_iff.mpr c9
        subst c9
        have H1 : (semigroupref04_Nullable.l0 k1 t422 t422 l0_2 (l0_2.length : Int) (wrap64 (x11_1 + 1)) a0_0 a0_1 l0_2) = some r := by rw [if_neg (show ¬ (false = true) by decide)] at H; exact H
        clear H
        have H := H1
        clear H1
        have H' := Aside0.mk H
        clear H
        have p420 : 0 ≤ (x11_1 : Int) := of_decide_eq_true (by first | (with_reducible assumption) | assumption)
        have q420 : x11_1 < (l0_2.length : Int) := of_decide_eq_true (by first | (with_reducible assumption) | assumption)
        obtain ⟨ad420, A420_2, c420_2, e420, hx420_0, hx420_1, hx420_2, hl420_2, hi420_2⟩ := at_T24 HR0_2.out x11_1 p420 q420
        cases e420
        replace hx420_0 := (HB.out.cell (World.block_lt_of_cell? w _ hx420_0)).trans hx420_0
        replace hx420_1 := (HB.out.cell (World.block_lt_of_cell? w _ hx420_1)).trans hx420_1
        replace hx420_2 := (HB.out.cell (World.block_lt_of_cell? w _ hx420_2)).trans hx420_2
        have HR420_2 := Aside0.mk hi420_2
        have HC420_2 := Aside0.mk hl420_2
        clear hi420_2 hl420_2
        replace p420 := eq_true p420
        replace q420 := eq_true q420
        go_wp2_with (first | ((with_reducible refine gate_dst (N := 6) rfl ?_); refine box_event ?hg (N := 6) ?hd (cs := #[.int .i64 0, .int .i64 0, .slice none 0 0]) (t := 24) ?hr ?_; (case hd => rfl); (case hg => rfl); (case hr => first | (go_simp; done) | (go_simp; rfl)); intro gb421 hg w14 hbox hb; have n0_ := Aside0.mk (blk_below (g := gb419) (o := .cells #[.int .i64 a0_0, .int .i64 a0_1, .slice (some ad420) l0_2.length c0_2] 24 (0, 0)) (bK) hb); have n1_ := Aside0.mk (below_step (bB) hb); have n2_ := Aside0.mk (hbox); have n3_ := Aside0.mk ((by rw [hg]; exact (below_size (bB)) : w.heap.size ≤ gb421)); have n4_ := Aside0.mk ((by rw [hg]; exact (below_size (bB)) : w.heap.size ≤ gb421)); have n5_ := Aside0.mk ((by rw [hg]; exact Nat.ne_of_lt (blk_lt (g := gb419) (o := .cells #[.int .i64 a0_0, .int .i64 a0_1, .slice (some ad420) l0_2.length c0_2] 24 (0, 0)) (bK)) : gb419 ≠ gb421)); have n6_ := Aside0.mk ((by rw [hg]; exact Nat.ne_of_gt (blk_lt (g := gb419) (o := .cells #[.int .i64 a0_0, .int .i64 a0_1, .slice (some ad420) l0_2.length c0_2] 24 (0, 0)) (bK)) : gb421 ≠ gb419)); clear BK419; clear HB; have BK419 := n0_; have HB := n1_; have BK421 := n2_; have GW421 := n3_; have GE421 := n4_; have NB419_421 := n5_; have NB421_419 := n6_; clear n0_ n1_ n2_ n3_ n4_ n5_ n6_; clear hb hbox hg; have hnb15 := NB421_419.out; have hnc15 := NB419_421.out; have hcz16_0 : w14.cell? ⟨gb421, 0, none⟩ = some (.int .i64 0) := (blk_cell BK421.out 0).trans rfl; have hcz16_1 : w14.cell? ⟨gb421, 1, none⟩ = some (.int .i64 0) := (blk_cell BK421.out 1).trans rfl; have hcz16_2 : w14.cell? ⟨gb421, 2, none⟩ = some (.slice none 0 0) := (blk_cell BK421.out 2).trans rfl; have hfz16_0 := blk_frozen BK421.out 0; have hfz16_1 := blk_frozen BK421.out 1; have hfz16_2 := blk_frozen BK421.out 2) | ((with_reducible refine gate_callee (f := 34) rfl ?_); refine goesL_ (some 16) rfl rfl Try.func34 (by kernel_rfl) rfl #[.agg #[.int .i64 ((rd_T24 l0_2 x11_1).f0), .int .i64 ((rd_T24 l0_2 x11_1).f1), .slice A420_2 ((rd_T24 l0_2 x11_1).f2).length c420_2]] rfl (by (try simp only [List.map_toArray, List.map_cons, List.map_nil]); first | done | rfl | (simp only [List.length_drop, List.length_take]; rfl) | (simp only [Int.ofNat_lt, Int.ofNat_le]; rfl)) ?_; (with_reducible refine (ih k1 (by have := HK1.out; omega) ((rd_T24 l0_2 x11_1).f0) ((rd_T24 l0_2 x11_1).f1) _ _ ((rd_T24 l0_2 x11_1).f2) t422 _ ?side1 ?side2 A7.out).mono ?_); (case side1 => exact Kd.C_below HR420_2.out (bB)); (case side2 => exact HC420_2.out); rintro e w17 ⟨rfl, hb⟩; refine ⟨_, rfl, ?_⟩; have n0_ := Aside0.mk (blk_below (g := gb419) (o := .cells #[.int .i64 a0_0, .int .i64 a0_1, .slice (some ad420) l0_2.length c0_2] 24 (0, 0)) (by (with_reducible repeat (first | refine blk_drewN ?_ _ | refine blk_drew ?_ | refine blk_alloc ?_ _)); refine blk_far ?_ NB419_421.out _; (with_reducible repeat (first | refine blk_drewN ?_ _ | refine blk_drew ?_ | refine blk_alloc ?_ _)); refine blk_far ?_ NB419_421.out _; (with_reducible repeat (first | refine blk_drewN ?_ _ | refine blk_drew ?_ | refine blk_alloc ?_ _)); refine blk_far ?_ NB419_421.out _; (with_reducible repeat (first | refine blk_drewN ?_ _ | refine blk_drew ?_ | refine blk_alloc ?_ _)); exact BK419.out) hb); have n1_ := Aside0.mk (blk_below (g := gb421) (o := .cells #[.int .i64 ((rd_T24 l0_2 x11_1).f0), .int .i64 ((rd_T24 l0_2 x11_1).f1), .slice A420_2 ((rd_T24 l0_2 x11_1).f2).length c420_2] 24 (0, 0)) (by (with_reducible repeat (first | refine blk_drewN ?_ _ | refine blk_drew ?_ | refine blk_alloc ?_ _)); refine blk_put (cs := #[.int .i64 ((rd_T24 l0_2 x11_1).f0), .int .i64 ((rd_T24 l0_2 x11_1).f1), .slice none 0 0]) ?_ 2 _ rfl; (with_reducible repeat (first | refine blk_drewN ?_ _ | refine blk_drew ?_ | refine blk_alloc ?_ _)); refine blk_put (cs := #[.int .i64 ((rd_T24 l0_2 x11_1).f0), .int .i64 0, .slice none 0 0]) ?_ 1 _ rfl; (with_reducible repeat (first | refine blk_drewN ?_ _ | refine blk_drew ?_ | refine blk_alloc ?_ _)); refine blk_put (cs := #[.int .i64 0, .int .i64 0, .slice none 0 0]) ?_ 0 _ rfl; (with_reducible repeat (first | refine blk_drewN ?_ _ | refine blk_drew ?_ | refine blk_alloc ?_ _)); exact BK421.out) hb); have n2_ := Aside0.mk (below_step (bB) hb); clear BK419; clear BK421; clear HB; have BK419 := n0_; have BK421 := n1_; have HB := n2_; clear n0_ n1_ n2_; (try clear hb); (try clear hb2); (try clear hk); (try clear hi)))
        (first | go_roundg k1 | ((simp only [add_plain] at *); go_roundg k1))
        case measure => have := HK1.out; omega
        case rel => exact ⟨(t422), (t422), (wrap64 (x11_1 + 1)), (by first | rfl | (simp; done) | (simp [*]; done)), (by first | rfl | (simp; done) | (simp [*]; done)), (by first | rfl | (simp; done) | (simp [*]; done)), H', ⟨by have := HK1.out; omega⟩, ⟨bK⟩, ⟨bB⟩⟩
      ·replace c8 := Bool.eq_false_iff.mpr c8
       subst c8
       have H1 : (if x4_1 = true then (semigroupref04_Nullable.l0 k1 false true l0_2 (l0_2.length : Int) (wrap64 (x11_1 + 1)) a0_0 a0_1 l0_2) else (semigroupref04_Nullable.l0 k1 false t422 l0_2 (l0_2.length : Int) (wrap64 (x11_1 + 1)) a0_0 a0_1 l0_2)) = some r := by rw [if_neg (show ¬ (false = true) by decide)] at H; exact H
       clear H
       have H := H1
       clear H1
       by_cases c18 : x4_1 = true
       ·subst c18
        have H1 : (semigroupref04_Nullable.l0 k1 false true l0_2 (l0_2.length : Int) (wrap64 (x11_1 + 1)) a0_0 a0_1 l0_2) = some r := by rw [if_pos rfl] at H; exact H
        clear H
        have H := H1
        clear H1
        have H' := Aside0.mk H
        clear H
        have p420 : 0 ≤ (x11_1 : Int) := of_decide_eq_true (by first | (with_reducible assumption) | assumption)
        have q420 : x11_1 < (l0_2.length : Int) := of_decide_eq_true (by first | (with_reducible assumption) | assumption)
        obtain ⟨ad420, A420_2, c420_2, e420, hx420_0, hx420_1, hx420_2, hl420_2, hi420_2⟩ := at_T24 HR0_2.out x11_1 p420 q420
        cases e420
        replace hx420_0 := (HB.out.cell (World.block_lt_of_cell? w _ hx420_0)).trans hx420_0
        replace hx420_1 := (HB.out.cell (World.block_lt_of_cell? w _ hx420_1)).trans hx420_1
        replace hx420_2 := (HB.out.cell (World.block_lt_of_cell? w _ hx420_2)).trans hx420_2
        have HR420_2 := Aside0.mk hi420_2
        have HC420_2 := Aside0.mk hl420_2
        clear hi420_2 hl420_2
        replace p420 := eq_true p420
        replace q420 := eq_true q420
        go_wp2_with (first | ((with_reducible refine gate_dst (N := 6) rfl ?_); refine box_event ?hg (N := 6) ?hd (cs := #[.int .i64 0, .int .i64 0, .slice none 0 0]) (t := 24) ?hr ?_; (case hd => rfl); (case hg => rfl); (case hr => first | (go_simp; done) | (go_simp; rfl)); intro gb421 hg w19 hbox hb; have n0_ := Aside0.mk (blk_below (g := gb419) (o := .cells #[.int .i64 a0_0, .int .i64 a0_1, .slice (some ad420) l0_2.length c0_2] 24 (0, 0)) (bK) hb); have n1_ := Aside0.mk (below_step (bB) hb); have n2_ := Aside0.mk (hbox); have n3_ := Aside0.mk ((by rw [hg]; exact (below_size (bB)) : w.heap.size ≤ gb421)); have n4_ := Aside0.mk ((by rw [hg]; exact (below_size (bB)) : w.heap.size ≤ gb421)); have n5_ := Aside0.mk ((by rw [hg]; exact Nat.ne_of_lt (blk_lt (g := gb419) (o := .cells #[.int .i64 a0_0, .int .i64 a0_1, .slice (some ad420) l0_2.length c0_2] 24 (0, 0)) (bK)) : gb419 ≠ gb421)); have n6_ := Aside0.mk ((by rw [hg]; exact Nat.ne_of_gt (blk_lt (g := gb419) (o := .cells #[.int .i64 a0_0, .int .i64 a0_1, .slice (some ad420) l0_2.length c0_2] 24 (0, 0)) (bK)) : gb421 ≠ gb419)); clear BK419; clear HB; have BK419 := n0_; have HB := n1_; have BK421 := n2_; have GW421 := n3_; have GE421 := n4_; have NB419_421 := n5_; have NB421_419 := n6_; clear n0_ n1_ n2_ n3_ n4_ n5_ n6_; clear hb hbox hg; have hnb20 := NB421_419.out; have hnc20 := NB419_421.out; have hcz21_0 : w19.cell? ⟨gb421, 0, none⟩ = some (.int .i64 0) := (blk_cell BK421.out 0).trans rfl; have hcz21_1 : w19.cell? ⟨gb421, 1, none⟩ = some (.int .i64 0) := (blk_cell BK421.out 1).trans rfl; have hcz21_2 : w19.cell? ⟨gb421, 2, none⟩ = some (.slice none 0 0) := (blk_cell BK421.out 2).trans rfl; have hfz21_0 := blk_frozen BK421.out 0; have hfz21_1 := blk_frozen BK421.out 1; have hfz21_2 := blk_frozen BK421.out 2) | ((with_reducible refine gate_callee (f := 34) rfl ?_); refine goesL_ (some 16) rfl rfl Try.func34 (by kernel_rfl) rfl #[.agg #[.int .i64 ((rd_T24 l0_2 x11_1).f0), .int .i64 ((rd_T24 l0_2 x11_1).f1), .slice A420_2 ((rd_T24 l0_2 x11_1).f2).length c420_2]] rfl (by (try simp only [List.map_toArray, List.map_cons, List.map_nil]); first | done | rfl | (simp only [List.length_drop, List.length_take]; rfl) | (simp only [Int.ofNat_lt, Int.ofNat_le]; rfl)) ?_; (with_reducible refine (ih k1 (by have := HK1.out; omega) ((rd_T24 l0_2 x11_1).f0) ((rd_T24 l0_2 x11_1).f1) _ _ ((rd_T24 l0_2 x11_1).f2) t422 _ ?side1 ?side2 A7.out).mono ?_); (case side1 => exact Kd.C_below HR420_2.out (bB)); (case side2 => exact HC420_2.out); rintro e w22 ⟨rfl, hb⟩; refine ⟨_, rfl, ?_⟩; have n0_ := Aside0.mk (blk_below (g := gb419) (o := .cells #[.int .i64 a0_0, .int .i64 a0_1, .slice (some ad420) l0_2.length c0_2] 24 (0, 0)) (by (with_reducible repeat (first | refine blk_drewN ?_ _ | refine blk_drew ?_ | refine blk_alloc ?_ _)); refine blk_far ?_ NB419_421.out _; (with_reducible repeat (first | refine blk_drewN ?_ _ | refine blk_drew ?_ | refine blk_alloc ?_ _)); refine blk_far ?_ NB419_421.out _; (with_reducible repeat (first | refine blk_drewN ?_ _ | refine blk_drew ?_ | refine blk_alloc ?_ _)); refine blk_far ?_ NB419_421.out _; (with_reducible repeat (first | refine blk_drewN ?_ _ | refine blk_drew ?_ | refine blk_alloc ?_ _)); exact BK419.out) hb); have n1_ := Aside0.mk (blk_below (g := gb421) (o := .cells #[.int .i64 ((rd_T24 l0_2 x11_1).f0), .int .i64 ((rd_T24 l0_2 x11_1).f1), .slice A420_2 ((rd_T24 l0_2 x11_1).f2).length c420_2] 24 (0, 0)) (by (with_reducible repeat (first | refine blk_drewN ?_ _ | refine blk_drew ?_ | refine blk_alloc ?_ _)); refine blk_put (cs := #[.int .i64 ((rd_T24 l0_2 x11_1).f0), .int .i64 ((rd_T24 l0_2 x11_1).f1), .slice none 0 0]) ?_ 2 _ rfl; (with_reducible repeat (first | refine blk_drewN ?_ _ | refine blk_drew ?_ | refine blk_alloc ?_ _)); refine blk_put (cs := #[.int .i64 ((rd_T24 l0_2 x11_1).f0), .int .i64 0, .slice none 0 0]) ?_ 1 _ rfl; (with_reducible repeat (first | refine blk_drewN ?_ _ | refine blk_drew ?_ | refine blk_alloc ?_ _)); refine blk_put (cs := #[.int .i64 0, .int .i64 0, .slice none 0 0]) ?_ 0 _ rfl; (with_reducible repeat (first | refine blk_drewN ?_ _ | refine blk_drew ?_ | refine blk_alloc ?_ _)); exact BK421.out) hb); have n2_ := Aside0.mk (below_step (bB) hb); clear BK419; clear BK421; clear HB; have BK419 := n0_; have BK421 := n1_; have HB := n2_; clear n0_ n1_ n2_; (try clear hb); (try clear hb2); (try clear hk); (try clear hi)))
        (first | go_roundg k1 | ((simp only [add_plain] at *); go_roundg k1))
        case measure => have := HK1.out; omega
        case rel => exact ⟨(false), (true), (wrap64 (x11_1 + 1)), (by first | rfl | (simp; done) | (simp [*]; done)), (by first | rfl | (simp; done) | (simp [*]; done)), (by first | rfl | (simp; done) | (simp [*]; done)), H', ⟨by have := HK1.out; omega⟩, ⟨bK⟩, ⟨bB⟩⟩
       ·replace c18 := Bool.eq_false_iff.mpr c18
        subst c18
        have H1 : (semigroupref04_Nullable.l0 k1 false t422 l0_2 (l0_2.length : Int) (wrap64 (x11_1 + 1)) a0_0 a0_1 l0_2) = some r := by rw [if_neg (show ¬ (false = true) by decide)] at H; exact H
        clear H
        have H := H1
        clear H1
        have H' := Aside0.mk H
        clear H
        have p420 : 0 ≤ (x11_1 : Int) := of_decide_eq_true (by first | (with_reducible assumption) | assumption)
        have q420 : x11_1 < (l0_2.length : Int) := of_decide_eq_true (by first | (with_reducible assumption) | assumption)
        obtain ⟨ad420, A420_2, c420_2, e420, hx420_0, hx420_1, hx420_2, hl420_2, hi420_2⟩ := at_T24 HR0_2.out x11_1 p420 q420
        cases e420
        replace hx420_0 := (HB.out.cell (World.block_lt_of_cell? w _ hx420_0)).trans hx420_0
        replace hx420_1 := (HB.out.cell (World.block_lt_of_cell? w _ hx420_1)).trans hx420_1
        replace hx420_2 := (HB.out.cell (World.block_lt_of_cell? w _ hx420_2)).trans hx420_2
        have HR420_2 := Aside0.mk hi420_2
        have HC420_2 := Aside0.mk hl420_2
        clear hi420_2 hl420_2
        replace p420 := eq_true p420
        replace q420 := eq_true q420
        go_wp2_with (first | ((with_reducible refine gate_dst (N := 6) rfl ?_); refine box_event ?hg (N := 6) ?hd (cs := #[.int .i64 0, .int .i64 0, .slice none 0 0]) (t := 24) ?hr ?_; (case hd => rfl); (case hg => rfl); (case hr => first | (go_simp; done) | (go_simp; rfl)); intro gb421 hg w23 hbox hb; have n0_ := Aside0.mk (blk_below (g := gb419) (o := .cells #[.int .i64 a0_0, .int .i64 a0_1, .slice (some ad420) l0_2.length c0_2] 24 (0, 0)) (bK) hb); have n1_ := Aside0.mk (below_step (bB) hb); have n2_ := Aside0.mk (hbox); have n3_ := Aside0.mk ((by rw [hg]; exact (below_size (bB)) : w.heap.size ≤ gb421)); have n4_ := Aside0.mk ((by rw [hg]; exact (below_size (bB)) : w.heap.size ≤ gb421)); have n5_ := Aside0.mk ((by rw [hg]; exact Nat.ne_of_lt (blk_lt (g := gb419) (o := .cells #[.int .i64 a0_0, .int .i64 a0_1, .slice (some ad420) l0_2.length c0_2] 24 (0, 0)) (bK)) : gb419 ≠ gb421)); have n6_ := Aside0.mk ((by rw [hg]; exact Nat.ne_of_gt (blk_lt (g := gb419) (o := .cells #[.int .i64 a0_0, .int .i64 a0_1, .slice (some ad420) l0_2.length c0_2] 24 (0, 0)) (bK)) : gb421 ≠ gb419)); clear BK419; clear HB; have BK419 := n0_; have HB := n1_; have BK421 := n2_; have GW421 := n3_; have GE421 := n4_; have NB419_421 := n5_; have NB421_419 := n6_; clear n0_ n1_ n2_ n3_ n4_ n5_ n6_; clear hb hbox hg; have hnb24 := NB421_419.out; have hnc24 := NB419_421.out; have hcz25_0 : w23.cell? ⟨gb421, 0, none⟩ = some (.int .i64 0) := (blk_cell BK421.out 0).trans rfl; have hcz25_1 : w23.cell? ⟨gb421, 1, none⟩ = some (.int .i64 0) := (blk_cell BK421.out 1).trans rfl; have hcz25_2 : w23.cell? ⟨gb421, 2, none⟩ = some (.slice none 0 0) := (blk_cell BK421.out 2).trans rfl; have hfz25_0 := blk_frozen BK421.out 0; have hfz25_1 := blk_frozen BK421.out 1; have hfz25_2 := blk_frozen BK421.out 2) | ((with_reducible refine gate_callee (f := 34) rfl ?_); refine goesL_ (some 16) rfl rfl Try.func34 (by kernel_rfl) rfl #[.agg #[.int .i64 ((rd_T24 l0_2 x11_1).f0), .int .i64 ((rd_T24 l0_2 x11_1).f1), .slice A420_2 ((rd_T24 l0_2 x11_1).f2).length c420_2]] rfl (by (try simp only [List.map_toArray, List.map_cons, List.map_nil]); first | done | rfl | (simp only [List.length_drop, List.length_take]; rfl) | (simp only [Int.ofNat_lt, Int.ofNat_le]; rfl)) ?_; (with_reducible refine (ih k1 (by have := HK1.out; omega) ((rd_T24 l0_2 x11_1).f0) ((rd_T24 l0_2 x11_1).f1) _ _ ((rd_T24 l0_2 x11_1).f2) t422 _ ?side1 ?side2 A7.out).mono ?_); (case side1 => exact Kd.C_below HR420_2.out (bB)); (case side2 => exact HC420_2.out); rintro e w26 ⟨rfl, hb⟩; refine ⟨_, rfl, ?_⟩; have n0_ := Aside0.mk (blk_below (g := gb419) (o := .cells #[.int .i64 a0_0, .int .i64 a0_1, .slice (some ad420) l0_2.length c0_2] 24 (0, 0)) (by (with_reducible repeat (first | refine blk_drewN ?_ _ | refine blk_drew ?_ | refine blk_alloc ?_ _)); refine blk_far ?_ NB419_421.out _; (with_reducible repeat (first | refine blk_drewN ?_ _ | refine blk_drew ?_ | refine blk_alloc ?_ _)); refine blk_far ?_ NB419_421.out _; (with_reducible repeat (first | refine blk_drewN ?_ _ | refine blk_drew ?_ | refine blk_alloc ?_ _)); refine blk_far ?_ NB419_421.out _; (with_reducible repeat (first | refine blk_drewN ?_ _ | refine blk_drew ?_ | refine blk_alloc ?_ _)); exact BK419.out) hb); have n1_ := Aside0.mk (blk_below (g := gb421) (o := .cells #[.int .i64 ((rd_T24 l0_2 x11_1).f0), .int .i64 ((rd_T24 l0_2 x11_1).f1), .slice A420_2 ((rd_T24 l0_2 x11_1).f2).length c420_2] 24 (0, 0)) (by (with_reducible repeat (first | refine blk_drewN ?_ _ | refine blk_drew ?_ | refine blk_alloc ?_ _)); refine blk_put (cs := #[.int .i64 ((rd_T24 l0_2 x11_1).f0), .int .i64 ((rd_T24 l0_2 x11_1).f1), .slice none 0 0]) ?_ 2 _ rfl; (with_reducible repeat (first | refine blk_drewN ?_ _ | refine blk_drew ?_ | refine blk_alloc ?_ _)); refine blk_put (cs := #[.int .i64 ((rd_T24 l0_2 x11_1).f0), .int .i64 0, .slice none 0 0]) ?_ 1 _ rfl; (with_reducible repeat (first | refine blk_drewN ?_ _ | refine blk_drew ?_ | refine blk_alloc ?_ _)); refine blk_put (cs := #[.int .i64 0, .int .i64 0, .slice none 0 0]) ?_ 0 _ rfl; (with_reducible repeat (first | refine blk_drewN ?_ _ | refine blk_drew ?_ | refine blk_alloc ?_ _)); exact BK421.out) hb); have n2_ := Aside0.mk (below_step (bB) hb); clear BK419; clear BK421; clear HB; have BK419 := n0_; have BK421 := n1_; have HB := n2_; clear n0_ n1_ n2_; (try clear hb); (try clear hb2); (try clear hk); (try clear hi)))
        (first | go_roundg k1 | ((simp only [add_plain] at *); go_roundg k1))
        case measure => have := HK1.out; omega
        case rel => exact ⟨(false), (t422), (wrap64 (x11_1 + 1)), (by first | rfl | (simp; done) | (simp [*]; done)), (by first | rfl | (simp; done) | (simp [*]; done)), (by first | rfl | (simp; done) | (simp [*]; done)), H', ⟨by have := HK1.out; omega⟩, ⟨bK⟩, ⟨bB⟩⟩
     ·rw [if_neg c6] at H
      exact absurd H (by simp)
    ·rw [if_neg c5] at H
     exact absurd H (by simp)
   ·rw [if_neg c4] at H
    have c4b0 : decide (x11_1 < (l0_2.length : Int)) = false := decide_eq_false c4
    clear c4
    have HC27 := Aside0.mk H
    clear H
    have hcz28_0 : wr.cell? ⟨gb419, 0, none⟩ = some (.int .i64 a0_0) := (blk_cell BK419.out 0).trans rfl
    have hcz28_1 : wr.cell? ⟨gb419, 1, none⟩ = some (.int .i64 a0_1) := (blk_cell BK419.out 1).trans rfl
    have hcz28_2 : wr.cell? ⟨gb419, 2, none⟩ = some (.slice A0_2 l0_2.length c0_2) := (blk_cell BK419.out 2).trans rfl
    have hfz28_0 := blk_frozen BK419.out 0
    have hfz28_1 := blk_frozen BK419.out 1
    have hfz28_2 := blk_frozen BK419.out 2
    go_upto_if 28 with (fail)
    go_cut [28] (fun v28 wc => ∃ (kq : Nat) (x28_26 : Bool), v28 = .bool x28_26 ∧ Aside0 (semigroupref04_Nullable.j1 kq x3_1 x4_1 a0_0 x28_26 = some r) ∧ Aside0 (kq ≤ k1) ∧ Aside0 (wc.heap[gb419]? = some (.cells #[.int .i64 a0_0, .int .i64 a0_1, (.slice A0_2 l0_2.length c0_2)] 24 (0, 0))) ∧ Aside0 (Below w.heap.size w wc))
    case first =>
     have H := HC27.out
     clear HC27
     by_cases c29 : a0_0 = 2
     ·rw [if_pos c29] at H
      have c29b0 : (a0_0 == 2) = true := beq_iff_eq.mpr c29
      have c29b1 : (a0_0 != 2) = false := bne_eq_false_iff_eq.mpr c29
      clear c29
      (first | rw [c29b0] | (simp only [i64_w, i32_w]; rw [c29b0]) | skip)
      have H' := Aside0.mk H
      clear H
      go_wp2
      go_meet
      case rel => exact ⟨_, ((a0_0 == 2)), (by first | rfl | (simp; done) | (simp [*]; done)), H', ⟨by have := HK1.out; first | omega | exact Nat.le_refl _⟩, ⟨bK⟩, ⟨bB⟩⟩
     ·rw [if_neg c29] at H
      have c29b0 : (a0_0 == 2) = false := beq_eq_false_iff_ne.mpr c29
      have c29b1 : (a0_0 != 2) = true := bne_iff_ne.mpr c29
      (first | rw [c29b0] | (simp only [i64_w, i32_w]; rw [c29b0]) | skip)
      have H' := Aside0.mk H
      clear H
      go_wp2
      go_meet
      case rel => exact ⟨_, ((a0_0 == 7)), (by first | rfl | (simp; done) | (simp [*]; done)), H', ⟨by have := HK1.out; first | omega | exact Nat.le_refl _⟩, ⟨bK⟩, ⟨bB⟩⟩
    case rest =>
     clear HC27
     try clear c1
     try clear c2
     try clear p2
     try clear c3
     try clear c4
     try clear c4b0
     try clear p4
     try clear q4
     try clear hx4
     try clear c5
     try clear c5b0
     try clear c6
     try clear c6b0
     try clear p6
     try clear c8
     try clear c9
     try clear c11
     try clear c15
     try clear c18
     try clear c20
     try clear c24
     try clear c29
     try clear c29b0
     try clear c29b1
     try clear hcz12_0
     try clear hcz12_1
     try clear hcz12_2
     try clear hcz16_0
     try clear hcz16_1
     try clear hcz16_2
     try clear hcz21_0
     try clear hcz21_1
     try clear hcz21_2
     try clear hcz25_0
     try clear hcz25_1
     try clear hcz25_2
     try clear hcz28_0
     try clear hcz28_1
     try clear hcz28_2
     try clear hcz3_0
     try clear hcz3_1
     try clear hcz3_2
     try clear hfz12_0
     try clear hfz12_1
     try clear hfz12_2
     try clear hfz16_0
     try clear hfz16_1
     try clear hfz16_2
     try clear hfz21_0
     try clear hfz21_1
     try clear hfz21_2
     try clear hfz25_0
     try clear hfz25_1
     try clear hfz25_2
     try clear hfz28_0
     try clear hfz28_1
     try clear hfz28_2
     try clear hfz3_0
     try clear hfz3_1
     try clear hfz3_2
     try clear hx420_0
     try clear hx420_1
     try clear hx420_2
     try clear p2
     try clear p420
     try clear q420
     obtain ⟨kq, x28_26, rfl, HA, HJ26, BK419, HB⟩ := hcut
     cases kq with
     | zero => exact absurd HA.out (by simp [semigroupref04_Nullable.j1])
     | succ kj26 =>
      have H := HA.out
      clear HA
      simp only [semigroupref04_Nullable.j1] at H
      by_cases c30 : x28_26 = true
      ·subst c30
       have H1 : (some true) = some r := by rw [if_pos rfl] at H; exact H
       clear H
       have H := H1
       clear H1
       obtain rfl := Option.some.inj H
       go_wp2
       go_ret
       exact ⟨by first | rfl | (simp [errW_none, errW_some] <;> rfl) | (simp [*, errW_none, errW_some] <;> rfl), bB⟩
      ·replace c30 := Bool.eq_false_iff.mpr c30
       subst c30
       have H1 : (if a0_0 = 4 then (some x4_1) else (if a0_0 = 5 then (semigroupref04_Nullable.j2 kj26 x3_1 x4_1 a0_0 (a0_0 == 5)) else (semigroupref04_Nullable.j2 kj26 x3_1 x4_1 a0_0 (a0_0 == 6)))) = some r := by rw [if_neg (show ¬ (false = true) by decide)] at H; exact H
       clear H
       have H := H1
       clear H1
       by_cases c31 : a0_0 = 4
       ·rw [if_pos c31] at H
        have c31b0 : (a0_0 == 4) = true := beq_iff_eq.mpr c31
        have c31b1 : (a0_0 != 4) = false := bne_eq_false_iff_eq.mpr c31
        clear c31
        obtain rfl := Option.some.inj H
        go_wp2
        go_ret
        exact ⟨by first | rfl | (simp [errW_none, errW_some] <;> rfl) | (simp [*, errW_none, errW_some] <;> rfl), bB⟩
       ·rw [if_neg c31] at H
        have c31b0 : (a0_0 == 4) = false := beq_eq_false_iff_ne.mpr c31
        have c31b1 : (a0_0 != 4) = true := bne_iff_ne.mpr c31
        have HC32 := Aside0.mk H
        clear H
        go_upto_if 34 with (fail)
        go_cut [34] (fun v34 wc => ∃ (kq : Nat) (x34_31 : Bool), v34 = .bool x34_31 ∧ Aside0 (semigroupref04_Nullable.j2 kq x3_1 x4_1 a0_0 x34_31 = some r) ∧ Aside0 (kq ≤ kj26) ∧ Aside0 (wc.heap[gb419]? = some (.cells #[.int .i64 a0_0, .int .i64 a0_1, (.slice A0_2 l0_2.length c0_2)] 24 (0, 0))) ∧ Aside0 (Below w.heap.size w wc))
        case first =>
         have H := HC32.out
         clear HC32
         by_cases c33 : a0_0 = 5
         ·rw [if_pos c33] at H
          have c33b0 : (a0_0 == 5) = true := beq_iff_eq.mpr c33
          have c33b1 : (a0_0 != 5) = false := bne_eq_false_iff_eq.mpr c33
          clear c33
          (first | rw [c33b0] | (simp only [i64_w, i32_w]; rw [c33b0]) | skip)
          have H' := Aside0.mk H
          clear H
          go_wp2
          go_meet
          case rel => exact ⟨_, ((a0_0 == 5)), (by first | rfl | (simp; done) | (simp [*]; done)), H', ⟨by have := HK1.out; have := HJ26.out; first | omega | exact Nat.le_refl _⟩, ⟨bK⟩, ⟨bB⟩⟩
         ·rw [if_neg c33] at H
          have c33b0 : (a0_0 == 5) = false := beq_eq_false_iff_ne.mpr c33
          have c33b1 : (a0_0 != 5) = true := bne_iff_ne.mpr c33
          (first | rw [c33b0] | (simp only [i64_w, i32_w]; rw [c33b0]) | skip)
          have H' := Aside0.mk H
          clear H
          go_wp2
          go_meet
          case rel => exact ⟨_, ((a0_0 == 6)), (by first | rfl | (simp; done) | (simp [*]; done)), H', ⟨by have := HK1.out; have := HJ26.out; first | omega | exact Nat.le_refl _⟩, ⟨bK⟩, ⟨bB⟩⟩
        case rest =>
         clear HC32
         try clear c1
         try clear c2
         try clear p2
         try clear c3
         try clear c4
         try clear c4b0
         try clear p4
         try clear q4
         try clear hx4
         try clear c5
         try clear c5b0
         try clear c6
         try clear c6b0
         try clear p6
         try clear c8
         try clear c9
         try clear c11
         try clear c15
         try clear c18
         try clear c20
         try clear c24
         try clear c29
         try clear c29b0
         try clear c29b1
         try clear c30
         try clear c31
         try clear c31b0
         try clear c31b1
         try clear c33
         try clear c33b0
         try clear c33b1
         try clear hcz12_0
         try clear hcz12_1
         try clear hcz12_2
         try clear hcz16_0
         try clear hcz16_1
         try clear hcz16_2
         try clear hcz21_0
         try clear hcz21_1
         try clear hcz21_2
         try clear hcz25_0
         try clear hcz25_1
         try clear hcz25_2
         try clear hcz28_0
         try clear hcz28_1
         try clear hcz28_2
         try clear hcz3_0
         try clear hcz3_1
         try clear hcz3_2
         try clear hfz12_0
         try clear hfz12_1
         try clear hfz12_2
         try clear hfz16_0
         try clear hfz16_1
         try clear hfz16_2
         try clear hfz21_0
         try clear hfz21_1
         try clear hfz21_2
         try clear hfz25_0
         try clear hfz25_1
         try clear hfz25_2
         try clear hfz28_0
         try clear hfz28_1
         try clear hfz28_2
         try clear hfz3_0
         try clear hfz3_1
         try clear hfz3_2
         try clear hx420_0
         try clear hx420_1
         try clear hx420_2
         try clear p2
         try clear p4
         try clear p420
         try clear p6
         try clear q4
         try clear q420
         obtain ⟨kq, x34_31, rfl, HA, HJ31, BK419, HB⟩ := hcut
         cases kq with
         | zero => exact absurd HA.out (by simp [semigroupref04_Nullable.j2])
         | succ kj31 =>
          have H := HA.out
          clear HA
          simp only [semigroupref04_Nullable.j2] at H
          by_cases c34 : x34_31 = true
          ·subst c34
           have H1 : (some x3_1) = some r := by rw [if_pos rfl] at H; exact H
           clear H
           have H := H1
           clear H1
           obtain rfl := Option.some.inj H
           go_wp2
           go_ret
           exact ⟨by first | rfl | (simp [errW_none, errW_some] <;> rfl) | (simp [*, errW_none, errW_some] <;> rfl), bB⟩
          ·replace c34 := Bool.eq_false_iff.mpr c34
           subst c34
           have H1 : (if a0_0 = 8 then (some (!x4_1)) else (some false)) = some r := by rw [if_neg (show ¬ (false = true) by decide)] at H; exact H
           clear H
           have H := H1
           clear H1
           by_cases c35 : a0_0 = 8
           ·rw [if_pos c35] at H
            have c35b0 : (a0_0 == 8) = true := beq_iff_eq.mpr c35
            have c35b1 : (a0_0 != 8) = false := bne_eq_false_iff_eq.mpr c35
            clear c35
            obtain rfl := Option.some.inj H
            go_wp2
            go_ret
            exact ⟨by first | rfl | (simp [errW_none, errW_some] <;> rfl) | (simp [*, errW_none, errW_some] <;> rfl), bB⟩
           ·rw [if_neg c35] at H
            have c35b0 : (a0_0 == 8) = false := beq_eq_false_iff_ne.mpr c35
            have c35b1 : (a0_0 != 8) = true := bne_iff_ne.mpr c35
            obtain rfl := Option.some.inj H
            go_wp2
            go_ret
            exact ⟨by first | rfl | (simp [errW_none, errW_some] <;> rfl) | (simp [*, errW_none, errW_some] <;> rfl), bB⟩
end Go.Proofs.Ytjofkebiacaciaa.PAll
end
section
namespace Go.Proofs.Ytjofkebiacaciaa.T04
open Go Go.RowKit Go.Proofs.Ytjofkebiacaciaa.PAll Go.Proofs.YtjofkebiacaciaaW.PrintWords Go.Proofs.YtjofkebiacaciaaW.PrintLast Go.Proofs.YtjofkebiacaciaaW.PrintMore Go.Proofs.Ytjofkebiacaciaa.AllRead24
set_option linter.all false
def opKids (o : Int) (n : Nat) : Bool :=
 if o = 1 ∨ o = 2 ∨ o = 3 then decide (n = 0) else if o = 7 ∨ o = 8 then decide (n = 1) else if o = 4 ∨ o = 5 ∨ o = 6 then decide (2 ≤ n) else false
def letOK (o a L : Int) : Bool := if o = 3 then decide (0 ≤ a ∧ a < L) else decide (a = 0)
mutual
def shp (L : Int) : S24 → Bool
 | ⟨o, a, l⟩ => opKids o l.length && (letOK o a L && shps L l)
def shps (L : Int) : List S24 → Bool
 | [] => true
 | x :: r => shp L x && shps L r
end
theorem shp_mk (L : Int) (e : S24) : shp L e = (opKids e.f0 e.f2.length && (letOK e.f0 e.f1 L && shps L e.f2)) := by cases e; rw [shp]
theorem shps_mem {L : Int} {l : List S24} (h : shps L l = true) {x : S24} (hx : x ∈ l) : shp L x = true := by
 induction l with
 | nil => cases hx
 | cons y r ih =>
  simp [shps] at h
  rcases List.mem_cons.mp hx with rfl | hx
  ·exact h.1
  ·exact ih h.2 hx
theorem Ev.if {α : Type} {c : Prop} [Decidable c] {a b : Nat → Option α} {x y : α} (h1 : c → Ev a x) (h2 : ¬ c → Ev b y) : Ev (fun k => if c then a k else b k) (if c then x else y) := by
 by_cases h : c
 ·simp only [if_pos h]; exact h1 h
 ·simp only [if_neg h]; exact h2 h
theorem Ev.to {α : Type} {g : Nat → Option α} {x y : α} (h : Ev g x) (e : x = y) : Ev g y := e ▸ h
theorem shaped_prog (L : Int) (e : S24) : WF e → size e ≤ 400 → Ev (fun k => expr_shaped.f k e.f0 e.f1 e.f2 L) (shp L e) := by
 induction e using ind with
 | h e ih =>
 intro hw hs
 have hs' : sizes e.f2 ≤ 399 := by rw [size_mk] at hs; omega
 have hlen : e.f2.length ≤ 399 := Nat.le_trans (length_le_sizes _) hs'
 have loop : ∀ (r pre : List S24), e.f2 = pre ++ r → Ev (fun k => expr_shaped.l0 k L e.f2 (e.f2.length : Int) (pre.length : Int)) (shps L r) := by
  intro r
  induction r with
  | nil =>
   intro pre hp
   exact Ev.step (fun k => by simp only [expr_shaped.l0]; rw [hp, if_neg (not_lt_end pre)]; rfl) (Ev.now _)
  | cons x r ihr =>
   intro pre hp
   have hx : x ∈ e.f2 := by rw [hp]; simp
   have h1 := ih x hx (hw.kid hx) (by have := sizes_mem hx; omega)
   refine Ev.step (f := fun k => (expr_shaped.f k x.f0 x.f1 x.f2 L).bind fun t => (if t = true then (expr_shaped.l0 k L e.f2 (e.f2.length : Int) ((pre ++ [x]).length : Int)) else some false)) (fun k => ?_) (Ev.bind h1 ?_)
   ·simp only [expr_shaped.l0]
    rw [← next_mid (r := r) (x := x) (by rw [← hp]; exact hw.len), hp, if_pos (lt_mid pre x r), if_pos (ge0 _), if_pos (lt_mid pre x r), rd_mid]
   ·refine Ev.to (Ev.if (fun _ => ihr (pre ++ [x]) (by rw [hp]; exact shift_mid pre x r)) (fun _ => Ev.now false)) ?_
    simp [shps]
    try (cases shp L x <;> simp)
 have l0 := loop e.f2 [] rfl
 have j4 : ∀ b, Ev (fun k => expr_shaped.j4 k L b e.f0 e.f1 e.f2) (!b && shps L e.f2) := fun b =>
  Ev.step (f := fun k => if b = true then some false else expr_shaped.l0 k L e.f2 (e.f2.length : Int) 0) (fun k => by simp only [expr_shaped.j4]) (Ev.to (Ev.if (fun _ => Ev.now false) (fun _ => l0)) (by cases b <;> simp))
 have j3 : ∀ b, Ev (fun k => expr_shaped.j3 k L b e.f0 e.f1 e.f2) (!b && (letOK e.f0 e.f1 L && shps L e.f2)) := fun b =>
  Ev.step (fun k => by simp only [expr_shaped.j3]; rfl) (Ev.to (Ev.if (fun _ => Ev.now false) (fun _ => Ev.if (fun _ => Ev.if (fun _ => j4 _) (fun _ => Ev.if (fun _ => j4 _) (fun _ => j4 _))) (fun _ => j4 _))) (by
   unfold letOK
   cases b with
   | true => simp
   | false =>
    by_cases h3 : e.f0 = 3
    ·by_cases h4 : e.f1 < 0
     ·simp [h3, h4]; omega
     ·by_cases h5 : e.f1 ≥ L
      ·simp [h3, h4, h5]; omega
      ·simp [h3, h4, h5]; omega
    ·simp [h3]; by_cases h0 : e.f1 = 0 <;> simp [h0]))
 let J2 (least most : Nat) : Bool := decide (least ≤ e.f2.length ∧ e.f2.length ≤ most) && (letOK e.f0 e.f1 L && shps L e.f2)
 have j2 : ∀ least most : Nat, Ev (fun k => expr_shaped.j2 k L least most e.f0 e.f1 e.f2) (J2 least most) := fun least most =>
  Ev.step (fun k => by simp only [expr_shaped.j2]; rfl) (Ev.to (Ev.if (fun _ => j3 _) (fun _ => j3 _)) (by
   show _ = (decide (least ≤ e.f2.length ∧ e.f2.length ≤ most) && (letOK e.f0 e.f1 L && shps L e.f2))
   by_cases h : (e.f2.length : Int) < least
   ·have : ¬ (least ≤ e.f2.length ∧ e.f2.length ≤ most) := by omega
    simp only [if_pos h, decide_eq_false this]; simp
   ·by_cases h2 : (e.f2.length : Int) > most
    ·have : ¬ (least ≤ e.f2.length ∧ e.f2.length ≤ most) := by omega
     simp only [if_neg h, decide_eq_true h2, decide_eq_false this]; simp
    ·have : (least ≤ e.f2.length ∧ e.f2.length ≤ most) := by omega
     simp only [if_neg h, decide_eq_false h2, decide_eq_true this]; simp))
 have j1 : ∀ b, Ev (fun k => expr_shaped.j1 k L e.f0 b e.f0 e.f1 e.f2) (if b = true then J2 2 400 else if e.f0 = 7 then J2 1 1 else if e.f0 = 8 then J2 1 1 else false) := fun b =>
  Ev.step (fun k => by simp only [expr_shaped.j1]; rfl) (Ev.if (fun _ => j2 2 400) (fun _ => Ev.if (fun _ => j2 1 1) (fun _ => Ev.if (fun _ => j2 1 1) (fun _ => Ev.now false))))
 have j0 : ∀ b, Ev (fun k => expr_shaped.j0 k L 0 0 e.f0 b e.f0 e.f1 e.f2) (if b = true then J2 0 0 else if e.f0 = 4 ∨ e.f0 = 5 ∨ e.f0 = 6 then J2 2 400 else if e.f0 = 7 ∨ e.f0 = 8 then J2 1 1 else false) := fun b =>
  Ev.step (fun k => by simp only [expr_shaped.j0]; rfl) (Ev.to (Ev.if (fun _ => j2 0 0) (fun _ => Ev.if (fun _ => j1 _) (fun _ => Ev.if (fun _ => j1 _) (fun _ => j1 _)))) (by
   cases b with
   | true => simp
   | false =>
    by_cases h4 : e.f0 = 4
    ·simp [h4]
    ·by_cases h5 : e.f0 = 5
     ·simp [h5]
     ·by_cases h6 : e.f0 = 6
      ·simp [h6]
      ·by_cases h7 : e.f0 = 7
       ·simp [h7]
       ·by_cases h8 : e.f0 = 8
        ·simp [h8]
        ·simp [h4, h5, h6, h7, h8]))
 have a0 : J2 0 0 = (decide (e.f2.length = 0) && (letOK e.f0 e.f1 L && shps L e.f2)) := by
  show (decide (0 ≤ e.f2.length ∧ e.f2.length ≤ 0) && _) = _
  rw [show decide (0 ≤ e.f2.length ∧ e.f2.length ≤ 0) = decide (e.f2.length = 0) from by rw [decide_eq_decide]; omega]
 have a1 : J2 1 1 = (decide (e.f2.length = 1) && (letOK e.f0 e.f1 L && shps L e.f2)) := by
  show (decide (1 ≤ e.f2.length ∧ e.f2.length ≤ 1) && _) = _
  rw [show decide (1 ≤ e.f2.length ∧ e.f2.length ≤ 1) = decide (e.f2.length = 1) from by rw [decide_eq_decide]; omega]
 have a2 : J2 2 400 = (decide (2 ≤ e.f2.length) && (letOK e.f0 e.f1 L && shps L e.f2)) := by
  show (decide (2 ≤ e.f2.length ∧ e.f2.length ≤ 400) && _) = _
  rw [show decide (2 ≤ e.f2.length ∧ e.f2.length ≤ 400) = decide (2 ≤ e.f2.length) from by rw [decide_eq_decide]; omega]
 refine Ev.step (fun k => by simp only [expr_shaped.f]; rfl) (Ev.to (Ev.if (fun _ => j0 _) (fun _ => Ev.if (fun _ => j0 _) (fun _ => j0 _))) ?_)
 rw [a0, a1, a2, shp_mk]
 unfold opKids
 generalize (letOK e.f0 e.f1 L && shps L e.f2) = z
 by_cases h1 : e.f0 = 1
 ·simp [h1]
 ·by_cases h2 : e.f0 = 2
  ·simp [h2]
  ·by_cases h3 : e.f0 = 3
   ·simp [h3]
   ·by_cases h4 : e.f0 = 4
    ·simp [h4]
    ·by_cases h5 : e.f0 = 5
     ·simp [h5]
     ·by_cases h6 : e.f0 = 6
      ·simp [h6]
      ·by_cases h7 : e.f0 = 7
       ·simp [h7]
       ·by_cases h8 : e.f0 = 8
        ·simp [h8]
        ·simp [h1, h2, h3, h4, h5, h6, h7, h8]
theorem shaped_ref (L : Int) (e : S24) : WF e → Ev (fun k => semigroupref04_shaped.f k e.f0 e.f1 e.f2 L) (shp L e) := by
 induction e using ind with
 | h e ih =>
 intro hw
 have loop : ∀ (r pre : List S24), e.f2 = pre ++ r → ∀ b, Ev (fun k => semigroupref04_shaped.l0 k L (e.f2.length : Int) b (pre.length : Int) e.f0 e.f1 e.f2) (b && shps L r) := by
  intro r
  induction r with
  | nil =>
   intro pre hp b
   exact Ev.to (Ev.step (f := fun _ => some b) (fun k => by simp only [semigroupref04_shaped.l0]; rw [hp, if_neg (not_lt_end pre)]) (Ev.now _)) (by simp [shps])
  | cons x r ihr =>
   intro pre hp b
   have hx : x ∈ e.f2 := by rw [hp]; simp
   have h1 := ih x hx (hw.kid hx)
   cases b with
   | false => exact Ev.to (Ev.step (f := fun _ => some false) (fun k => by simp only [semigroupref04_shaped.l0]; rw [hp, if_pos (lt_mid pre x r), if_neg (by decide)]) (Ev.now _)) (by simp)
   | true =>
    refine Ev.to (Ev.step (f := fun k => (semigroupref04_shaped.f k x.f0 x.f1 x.f2 L).bind fun t => semigroupref04_shaped.l0 k L (e.f2.length : Int) t ((pre ++ [x]).length : Int) e.f0 e.f1 e.f2) (fun k => ?_) (Ev.bind h1 (ihr (pre ++ [x]) (by rw [hp]; exact shift_mid pre x r) _))) (by simp [shps])
    simp only [semigroupref04_shaped.l0]
    rw [← next_mid (r := r) (x := x) (by rw [← hp]; exact hw.len), hp, if_pos (lt_mid pre x r), if_pos trivial, if_pos (ge0 _), if_pos (lt_mid pre x r), rd_mid]
 have l0 := loop e.f2 [] rfl
 have j3 : ∀ b, Ev (fun k => semigroupref04_shaped.j3 k L (e.f2.length : Int) b e.f0 e.f1 e.f2) (b && shps L e.f2) := fun b =>
  Ev.step (fun k => by simp only [semigroupref04_shaped.j3]; rfl) (l0 b)
 have j2 : ∀ b, Ev (fun k => semigroupref04_shaped.j2 k L (e.f2.length : Int) b e.f0 e.f1 e.f2) (b && (letOK e.f0 e.f1 L && shps L e.f2)) := fun b =>
  Ev.step (fun k => by simp only [semigroupref04_shaped.j2]; rfl) (Ev.to (Ev.if (fun _ => Ev.if (fun _ => Ev.if (fun _ => j3 _) (fun _ => j3 _)) (fun _ => j3 _)) (fun _ => Ev.if (fun _ => j3 _) (fun _ => j3 _))) (by
   unfold letOK
   generalize shps L e.f2 = z
   cases b with
   | false => by_cases h3 : e.f0 = 3 <;> simp [h3]
   | true =>
    by_cases h3 : e.f0 = 3
    ·by_cases h4 : e.f1 ≥ 0
     ·simp [h3, h4]
     ·simp [h3, h4] <;> (try (intros; omega))
    ·simp [h3]; by_cases h0 : e.f1 = 0 <;> simp [h0]))
 let z := (letOK e.f0 e.f1 L && shps L e.f2)
 have j1 : ∀ b c, Ev (fun k => semigroupref04_shaped.j1 k L (e.f2.length : Int) b e.f0 c e.f0 e.f1 e.f2) ((if c = true then decide (e.f2.length = 0) else if e.f0 = 7 ∨ e.f0 = 8 then decide (e.f2.length = 1) else (b && decide (2 ≤ e.f2.length))) && z) := fun b c =>
  Ev.step (fun k => by simp only [semigroupref04_shaped.j1]; rfl) (Ev.to (Ev.if (fun _ => j2 _) (fun _ => Ev.if (fun _ => j2 _) (fun _ => Ev.if (fun _ => j2 _) (fun _ => Ev.if (fun _ => j2 _) (fun _ => j2 _))))) (by
   have e0 : ((e.f2.length : Int) == 0) = decide (e.f2.length = 0) := by rw [Bool.eq_iff_iff]; simp; try omega
   have e1 : ((e.f2.length : Int) == 1) = decide (e.f2.length = 1) := by rw [Bool.eq_iff_iff]; simp; try omega
   have e2 : decide ((e.f2.length : Int) ≥ 2) = decide (2 ≤ e.f2.length) := by rw [decide_eq_decide]; omega
   rw [e0, e1, e2]
   show _ = (_ && (letOK e.f0 e.f1 L && shps L e.f2))
   generalize (letOK e.f0 e.f1 L && shps L e.f2) = z
   cases c with
   | true => simp
   | false =>
    by_cases h7 : e.f0 = 7
    ·simp [h7]
    ·by_cases h8 : e.f0 = 8
     ·simp [h8]
     ·cases b <;> simp [h7, h8]))
 have j0 : ∀ b, Ev (fun k => semigroupref04_shaped.j0 k L (e.f2.length : Int) b e.f0 e.f1 e.f2) ((if e.f0 = 1 ∨ e.f0 = 2 ∨ e.f0 = 3 then decide (e.f2.length = 0) else if e.f0 = 7 ∨ e.f0 = 8 then decide (e.f2.length = 1) else (b && decide (2 ≤ e.f2.length))) && z) := fun b =>
  Ev.step (fun k => by simp only [semigroupref04_shaped.j0]; rfl) (Ev.to (Ev.if (fun _ => j1 _ _) (fun _ => Ev.if (fun _ => j1 _ _) (fun _ => j1 _ _))) (by
   by_cases h1 : e.f0 = 1
   ·simp [h1]
   ·by_cases h2 : e.f0 = 2
    ·simp [h2]
    ·by_cases h3 : e.f0 = 3
     ·simp [h3]
     ·simp [h1, h2, h3]))
 refine Ev.step (fun k => by simp only [semigroupref04_shaped.f]; rfl) (Ev.to (Ev.if (fun _ => j0 _) (fun _ => j0 _)) ?_)
 rw [shp_mk]
 unfold opKids
 show _ = (_ && z)
 generalize z = z
 by_cases h1 : e.f0 = 1
 ·simp [h1]
 ·by_cases h2 : e.f0 = 2
  ·simp [h2]
  ·by_cases h3 : e.f0 = 3
   ·simp [h3]
   ·by_cases h4 : e.f0 = 4
    ·simp [h4]
    ·by_cases h5 : e.f0 = 5
     ·simp [h5]
     ·by_cases h6 : e.f0 = 6
      ·simp [h6]
      ·by_cases h7 : e.f0 = 7
       ·simp [h7]
       ·by_cases h8 : e.f0 = 8
        ·simp [h8]
        ·simp [h1, h2, h3, h4, h5, h6, h7, h8]
         intro a b; omega
def validate (L : Int) (e : S24) : Int := if L < 1 ∨ 6 < L then 1 else if ¬ WithinP e then 3 else if shp L e = false then 4 else 0
theorem validate_prog (e : S24) (hw : WF e) (L : Int) : Ev (fun k => expr_Validate.f k e.f0 e.f1 e.f2 L) (validate L e) := by
 have j0 : ∀ b, Ev (fun k => expr_Validate.j0 k L b e.f0 e.f1 e.f2) (if b = true then 1 else if ¬ WithinP e then 3 else if shp L e = false then 4 else 0) := fun b =>
  Ev.step (fun k => by simp only [expr_Validate.j0]; rfl) (Ev.if (fun _ => Ev.now _) (fun _ => Ev.bind (within_prog e hw) (by
   by_cases h : WithinP e
   ·simp only [decide_eq_true h, h, if_true, not_true, if_false]
    refine Ev.bind (shaped_prog L e hw h.1) ?_
    cases shp L e
    ·simp; exact Ev.now _
    ·simp; exact Ev.now _
   ·simp only [decide_eq_false h, h]
    simp; exact Ev.now _)))
 refine Ev.congr (f := fun k => if L < 1 then expr_Validate.j0 k L true e.f0 e.f1 e.f2 else expr_Validate.j0 k L (decide (L > 6)) e.f0 e.f1 e.f2) (fun k => by simp only [expr_Validate.f]) (Ev.to (Ev.if (fun _ => j0 _) (fun _ => j0 _)) ?_)
 unfold validate
 by_cases h1 : L < 1
 ·simp [h1]
 ·by_cases h2 : L > 6
  ·simp [h1, h2]
  ·simp [h1, h2]
theorem validate_ref (e : S24) (hw : WF e) (L : Int) : Ev (fun k => semigroupref04_Validate.f k e.f0 e.f1 e.f2 L) (validate L e) := by
 have hm : semigroupref01_MayLetters.f L = some (decide (1 ≤ L ∧ L ≤ 6)) := by
  unfold semigroupref01_MayLetters.f
  by_cases h : L ≥ 1
  ·rw [if_pos h]; congr 1; rw [decide_eq_decide]; omega
  ·rw [if_neg h]; congr 1; rw [eq_comm, decide_eq_false_iff_not]; omega
 refine Ev.congr (fun k => by simp only [semigroupref04_Validate.f, hm]; rfl) ?_
 unfold validate
 by_cases h1 : 1 ≤ L ∧ L ≤ 6
 ·have h2 : ¬ (L < 1 ∨ 6 < L) := by omega
  simp only [decide_eq_true h1, Option.bind_some, if_true, if_neg h2]
  refine Ev.bind (within_ref e hw) ?_
  by_cases h : WithinP e
  ·simp only [decide_eq_true h, h, if_true, not_true, if_false]
   refine Ev.bind (shaped_ref L e hw) ?_
   cases shp L e
   ·simp; exact Ev.now _
   ·simp; exact Ev.now _
  ·simp only [decide_eq_false h, h]
   simp; exact Ev.now _
 ·have h2 : (L < 1 ∨ 6 < L) := by omega
  simp only [decide_eq_false h1, Option.bind_some, if_pos h2]
  simp; exact Ev.now _
def Vld (e : S24) : Prop := WithinP e ∧ shp 6 e = true
instance (e : S24) : Decidable (Vld e) := by unfold Vld; infer_instance
theorem validate_vld (e : S24) : (validate 6 e == 0) = decide (Vld e) := by
 unfold validate Vld
 by_cases h : WithinP e
 ·by_cases hs : shp 6 e = true
  ·simp [h, hs]
  ·simp [h, hs]
 ·simp [h]
theorem valid_prog (e : S24) (hw : WF e) : Ev (fun k => expr_valid.f k e.f0 e.f1 e.f2) (decide (Vld e)) :=
 Ev.congr (f := fun k => (expr_Validate.f k e.f0 e.f1 e.f2 6).bind fun t => some (t == 0)) (fun k => by simp only [expr_valid.f]) (Ev.bind (f := fun k t => some (t == 0)) (validate_prog e hw 6) (Ev.to (Ev.now _) (validate_vld e)))
theorem valid_ref (e : S24) (hw : WF e) : Ev (fun k => semigroupref04_Valid.f k e.f0 e.f1 e.f2) (decide (Vld e)) :=
 Ev.congr (f := fun k => (semigroupref04_Validate.f k e.f0 e.f1 e.f2 6).bind fun t => some (t == 0)) (fun k => by simp only [semigroupref04_Valid.f]) (Ev.bind (f := fun k t => some (t == 0)) (validate_ref e hw 6) (Ev.to (Ev.now _) (validate_vld e)))
end Go.Proofs.Ytjofkebiacaciaa.T04
end
section
namespace Go.Proofs.Ytjofkebiacaciaa.T04
open Go Go.RowKit Go.Proofs.Ytjofkebiacaciaa.PAll Go.Proofs.YtjofkebiacaciaaW.PrintWords Go.Proofs.YtjofkebiacaciaaW.PrintLast Go.Proofs.YtjofkebiacaciaaW.PrintMore Go.Proofs.Ytjofkebiacaciaa.AllRead24
set_option linter.all false
theorem size_ev (e : S24) : WF e → size e ≤ 400 → Ev (fun k => expr_size.f k e.f0 e.f1 e.f2) (size e : Int) := by
 induction e using ind with
 | h e ih =>
 intro hw hs
 have loop : ∀ (r pre : List S24), e.f2 = pre ++ r → ∀ m : Nat, m + sizes r ≤ 400 → Ev (fun k => expr_size.l0 k m e.f2 (e.f2.length : Int) (pre.length : Int)) ((m + sizes r : Nat) : Int) := by
  intro r
  induction r with
  | nil =>
   intro pre hp m hm
   exact Ev.to (Ev.step (f := fun _ => some (m : Int)) (fun k => by simp only [expr_size.l0]; rw [hp, if_neg (not_lt_end pre)]) (Ev.now _)) (by simp [sizes])
  | cons x r ihr =>
   intro pre hp m hm
   have hx : x ∈ e.f2 := by rw [hp]; simp
   simp only [sizes] at hm
   refine Ev.to (Ev.step (f := fun k => (expr_size.f k x.f0 x.f1 x.f2).bind fun t => expr_size.l0 k (wrap64 ((m : Int) + t)) e.f2 (e.f2.length : Int) ((pre ++ [x]).length : Int)) (fun k => ?_) (Ev.bind (ih x hx (hw.kid hx) (by omega)) ?_)) (rfl : ((m + sizes (x :: r) : Nat) : Int) = _)
   ·simp only [expr_size.l0]
    rw [← next_mid (r := r) (x := x) (by rw [← hp]; exact hw.len), hp, if_pos (lt_mid pre x r), if_pos (ge0 _), if_pos (lt_mid pre x r), rd_mid]
   ·have e1 : wrap64 ((m : Int) + (size x : Int)) = ((m + size x : Nat) : Int) := by rw [w64 (by omega) (by omega)]; omega
    rw [e1]
    exact Ev.to (ihr (pre ++ [x]) (by rw [hp]; exact shift_mid pre x r) (m + size x) (by omega)) (by simp [sizes]; omega)
 have := loop e.f2 [] rfl 1 (by rw [size_mk] at hs; exact hs)
 exact Ev.step (f := fun k => expr_size.l0 k 1 e.f2 (e.f2.length : Int) 0) (fun k => by simp only [expr_size.f]) (Ev.to this (by rw [size_mk]))
theorem depth_ev (e : S24) : WF e → size e ≤ 400 → Ev (fun k => expr_depth.f k e.f0 e.f1 e.f2) (depth e : Int) := by
 induction e using ind with
 | h e ih =>
 intro hw hs
 have loop : ∀ (r pre : List S24), e.f2 = pre ++ r → ∀ m : Nat, m ≤ 400 → Ev (fun k => expr_depth.l0 k m e.f2 (e.f2.length : Int) (pre.length : Int)) ((max m (depths r) + 1 : Nat) : Int) := by
  intro r
  induction r with
  | nil =>
   intro pre hp m hm
   exact Ev.to (Ev.step (f := fun _ => some ((m + 1 : Nat) : Int)) (fun k => by simp only [expr_depth.l0]; rw [hp, if_neg (not_lt_end pre), w64 (by omega) (by omega)]; try rfl) (Ev.now _)) (by simp [depths])
  | cons x r ihr =>
   intro pre hp m hm
   have hx : x ∈ e.f2 := by rw [hp]; simp
   have hsx : size x ≤ 400 := by have := sizes_mem hx; rw [size_mk] at hs; omega
   have hdx := depth_le_size x
   refine Ev.step (f := fun k => (expr_depth.f k x.f0 x.f1 x.f2).bind fun t => expr_depth.l0 k (mx m t) e.f2 (e.f2.length : Int) ((pre ++ [x]).length : Int)) (fun k => ?_) (Ev.bind (ih x hx (hw.kid hx) hsx) ?_)
   ·simp only [expr_depth.l0]
    rw [← next_mid (r := r) (x := x) (by rw [← hp]; exact hw.len), hp, if_pos (lt_mid pre x r), if_pos (ge0 _), if_pos (lt_mid pre x r), rd_mid]
   ·have e1 : mx (m : Int) (depth x : Int) = ((max m (depth x) : Nat) : Int) := by unfold mx; split <;> omega
    rw [e1]
    exact Ev.to (ihr (pre ++ [x]) (by rw [hp]; exact shift_mid pre x r) (max m (depth x)) (by omega)) (by simp [depths]; (try omega))
 have := loop e.f2 [] rfl 0 (by omega)
 exact Ev.step (f := fun k => expr_depth.l0 k 0 e.f2 (e.f2.length : Int) 0) (fun k => by simp only [expr_depth.f]) (Ev.to this (by rw [depth_mk]; omega))
mutual
def star : S24 → Nat
 | ⟨o, _, l⟩ => stars l + (if o = 7 then 1 else 0)
def stars : List S24 → Nat
 | [] => 0
 | x :: r => max (star x) (stars r)
end
theorem star_mk (e : S24) : star e = stars e.f2 + (if e.f0 = 7 then 1 else 0) := by cases e; rw [star]
theorem star_le_size (e : S24) : star e ≤ size e := by
 induction e using ind with
 | h e ih =>
 have : ∀ l : List S24, (∀ k, k ∈ l → star k ≤ size k) → stars l ≤ sizes l := by
  intro l
  induction l with
  | nil => intro _; simp [stars, sizes]
  | cons x r ihr =>
   intro h
   have h1 := h x (by simp)
   have h2 := ihr (fun k hk => h k (by simp [hk]))
   simp [stars, sizes]; omega
 have := this e.f2 ih
 rw [size_mk, star_mk]; split <;> omega
theorem star_ev (e : S24) : WF e → size e ≤ 400 → Ev (fun k => expr_height.f k e.f0 e.f1 e.f2) (star e : Int) ∧ Ev (fun k => semigroupref04_StarHeight.f k e.f0 e.f1 e.f2) (star e : Int) := by
 induction e using ind with
 | h e ih =>
 intro hw hs
 have loop : ∀ (r pre : List S24), e.f2 = pre ++ r → ∀ m : Nat, m ≤ 400 → Ev (fun k => expr_height.l0 k m e.f2 (e.f2.length : Int) (pre.length : Int) e.f0 e.f1 e.f2) ((max m (stars r) + (if e.f0 = 7 then 1 else 0) : Nat) : Int) ∧ Ev (fun k => semigroupref04_StarHeight.l0 k m e.f2 (e.f2.length : Int) (pre.length : Int) e.f0 e.f1 e.f2) ((max m (stars r) + (if e.f0 = 7 then 1 else 0) : Nat) : Int) := by
  intro r
  induction r with
  | nil =>
   intro pre hp m hm
   have q : (if e.f0 = 7 then some (wrap64 ((m : Int) + 1)) else some (m : Int)) = some ((max m (stars []) + (if e.f0 = 7 then 1 else 0) : Nat) : Int) := by
    by_cases h : e.f0 = 7
    ·rw [if_pos h, if_pos h, w64 (by omega) (by omega)]; simp [stars]
    ·rw [if_neg h, if_neg h]; simp [stars]
   exact ⟨Ev.step (f := fun _ => some ((max m (stars []) + (if e.f0 = 7 then 1 else 0) : Nat) : Int)) (fun k => by simp only [expr_height.l0]; rw [hp, if_neg (not_lt_end pre), q]) (Ev.now _), Ev.step (f := fun _ => some ((max m (stars []) + (if e.f0 = 7 then 1 else 0) : Nat) : Int)) (fun k => by simp only [semigroupref04_StarHeight.l0]; rw [hp, if_neg (not_lt_end pre), q]) (Ev.now _)⟩
  | cons x r ihr =>
   intro pre hp m hm
   have hx : x ∈ e.f2 := by rw [hp]; simp
   have hsx : size x ≤ 400 := by have := sizes_mem hx; rw [size_mk] at hs; omega
   have hdx := star_le_size x
   have e1 : mx (m : Int) (star x : Int) = ((max m (star x) : Nat) : Int) := by unfold mx; split <;> omega
   have hl : (pre ++ x :: r).length ≤ maxLen := by rw [← hp]; exact hw.len
   obtain ⟨k1, k2⟩ := ih x hx (hw.kid hx) hsx
   obtain ⟨g1, g2⟩ := ihr (pre ++ [x]) (by rw [hp]; exact shift_mid pre x r) (max m (star x)) (by omega)
   have ee : ((max (max m (star x)) (stars r) + (if e.f0 = 7 then 1 else 0) : Nat) : Int) = ((max m (stars (x :: r)) + (if e.f0 = 7 then 1 else 0) : Nat) : Int) := by simp [stars]; try omega
   refine ⟨Ev.step (f := fun k => (expr_height.f k x.f0 x.f1 x.f2).bind fun t => expr_height.l0 k (mx m t) e.f2 (e.f2.length : Int) ((pre ++ [x]).length : Int) e.f0 e.f1 e.f2) (fun k => ?_) (Ev.bind k1 ?_), Ev.step (f := fun k => (semigroupref04_StarHeight.f k x.f0 x.f1 x.f2).bind fun t => semigroupref04_StarHeight.l0 k (mx m t) e.f2 (e.f2.length : Int) ((pre ++ [x]).length : Int) e.f0 e.f1 e.f2) (fun k => ?_) (Ev.bind k2 ?_)⟩
   ·simp only [expr_height.l0]
    rw [← next_mid (r := r) (x := x) hl, hp, if_pos (lt_mid pre x r), if_pos (ge0 _), if_pos (lt_mid pre x r), rd_mid]
   ·rw [e1]; exact Ev.to g1 ee
   ·simp only [semigroupref04_StarHeight.l0]
    rw [← next_mid (r := r) (x := x) hl, hp, if_pos (lt_mid pre x r), if_pos (ge0 _), if_pos (lt_mid pre x r), rd_mid]
   ·rw [e1]; exact Ev.to g2 ee
 obtain ⟨g1, g2⟩ := loop e.f2 [] rfl 0 (by omega)
 exact ⟨Ev.step (f := fun k => expr_height.l0 k 0 e.f2 (e.f2.length : Int) 0 e.f0 e.f1 e.f2) (fun k => by simp only [expr_height.f]) (Ev.to g1 (by rw [star_mk]; simp)), Ev.step (f := fun k => semigroupref04_StarHeight.l0 k 0 e.f2 (e.f2.length : Int) 0 e.f0 e.f1 e.f2) (fun k => by simp only [semigroupref04_StarHeight.f]) (Ev.to g2 (by rw [star_mk]; simp))⟩
theorem uses_ev (e : S24) : WF e → Ev (fun k => semigroupref04_Uses.f k e.f0 e.f1 e.f2 7) (decide (star e ≠ 0)) := by
 induction e using ind with
 | h e ih =>
 intro hw
 have loop : ∀ (r pre : List S24), e.f2 = pre ++ r → Ev (fun k => semigroupref04_Uses.l0 k 7 e.f2 (e.f2.length : Int) (pre.length : Int)) (decide (stars r ≠ 0)) := by
  intro r
  induction r with
  | nil =>
   intro pre hp
   exact Ev.to (Ev.step (f := fun _ => some false) (fun k => by simp only [semigroupref04_Uses.l0]; rw [hp, if_neg (not_lt_end pre)]) (Ev.now _)) (by simp [stars])
  | cons x r ihr =>
   intro pre hp
   have hx : x ∈ e.f2 := by rw [hp]; simp
   refine Ev.to (Ev.step (f := fun k => (semigroupref04_Uses.f k x.f0 x.f1 x.f2 7).bind fun t => if t = true then some true else semigroupref04_Uses.l0 k 7 e.f2 (e.f2.length : Int) ((pre ++ [x]).length : Int)) (fun k => ?_) (Ev.bind (ih x hx (hw.kid hx)) (Ev.if (fun _ => Ev.now _) (fun _ => ihr (pre ++ [x]) (by rw [hp]; exact shift_mid pre x r))))) ?_
   ·simp only [semigroupref04_Uses.l0]
    rw [← next_mid (r := r) (x := x) (by rw [← hp]; exact hw.len), hp, if_pos (lt_mid pre x r), if_pos (ge0 _), if_pos (lt_mid pre x r), rd_mid]
   ·by_cases h : star x = 0
    ·simp [h, stars]
    ·simp [h, stars]
     all_goals (try omega)
 by_cases h : e.f0 = 7
 ·exact Ev.to (Ev.step (f := fun _ => some true) (fun k => by simp only [semigroupref04_Uses.f]; rw [if_pos h]) (Ev.now _)) (by rw [star_mk, if_pos h]; simp)
 ·exact Ev.to (Ev.step (f := fun k => semigroupref04_Uses.l0 k 7 e.f2 (e.f2.length : Int) 0) (fun k => by simp only [semigroupref04_Uses.f]; rw [if_neg h]) (loop e.f2 [] rfl)) (by rw [star_mk, if_neg h]; simp)
mutual
def nul : S24 → Bool
 | ⟨o, _, l⟩ => if o = 2 ∨ o = 7 then true else if o = 4 then nulOne l else if o = 5 ∨ o = 6 then nulAll l else if o = 8 then !nulOne l else false
def nulOne : List S24 → Bool
 | [] => false
 | x :: r => nul x || nulOne r
def nulAll : List S24 → Bool
 | [] => true
 | x :: r => nul x && nulAll r
end
theorem nul_mk (e : S24) : nul e = if e.f0 = 2 ∨ e.f0 = 7 then true else if e.f0 = 4 then nulOne e.f2 else if e.f0 = 5 ∨ e.f0 = 6 then nulAll e.f2 else if e.f0 = 8 then !nulOne e.f2 else false := by cases e; rw [nul]
theorem kid_shp {L : Int} {e : S24} (h : shp L e = true) {x : S24} (hx : x ∈ e.f2) : shp L x = true := by
 rw [shp_mk] at h
 simp at h
 exact shps_mem h.2.2 hx
theorem not_one {L : Int} {e : S24} (h : shp L e = true) (h8 : e.f0 = 7 ∨ e.f0 = 8) : ∃ x, e.f2 = [x] := by
 rw [shp_mk] at h
 simp at h
 have := h.1
 unfold opKids at this
 rw [if_neg (by omega), if_pos h8] at this
 have := of_decide_eq_true this
 exact List.length_eq_one_iff.mp this
theorem nul_prog (e : S24) : WF e → shp 6 e = true → Ev (fun k => simplify_Nullable.f k e.f0 e.f1 e.f2) (nul e) := by
 induction e using ind with
 | h e ih =>
 intro hw hs
 have lone : ∀ (r pre : List S24), e.f2 = pre ++ r → Ev (fun k => simplify_Nullable.l0 k e.f2 (e.f2.length : Int) (pre.length : Int)) (nulOne r) := by
  intro r
  induction r with
  | nil =>
   intro pre hp
   exact Ev.step (f := fun _ => some false) (fun k => by simp only [simplify_Nullable.l0]; rw [hp, if_neg (not_lt_end pre)]) (Ev.now _)
  | cons x r ihr =>
   intro pre hp
   have hx : x ∈ e.f2 := by rw [hp]; simp
   refine Ev.to (Ev.step (f := fun k => (simplify_Nullable.f k x.f0 x.f1 x.f2).bind fun t => if t = true then some true else simplify_Nullable.l0 k e.f2 (e.f2.length : Int) ((pre ++ [x]).length : Int)) (fun k => ?_) (Ev.bind (ih x hx (hw.kid hx) (kid_shp hs hx)) (Ev.if (fun _ => Ev.now _) (fun _ => ihr (pre ++ [x]) (by rw [hp]; exact shift_mid pre x r))))) ?_
   ·simp only [simplify_Nullable.l0]
    rw [← next_mid (r := r) (x := x) (by rw [← hp]; exact hw.len), hp, if_pos (lt_mid pre x r), if_pos (ge0 _), if_pos (lt_mid pre x r), rd_mid]
   ·rw [nulOne]; cases nul x <;> simp
 have lall : ∀ (r pre : List S24), e.f2 = pre ++ r → Ev (fun k => simplify_Nullable.l1 k e.f2 (e.f2.length : Int) (pre.length : Int)) (nulAll r) := by
  intro r
  induction r with
  | nil =>
   intro pre hp
   exact Ev.step (f := fun _ => some true) (fun k => by simp only [simplify_Nullable.l1]; rw [hp, if_neg (not_lt_end pre)]) (Ev.now _)
  | cons x r ihr =>
   intro pre hp
   have hx : x ∈ e.f2 := by rw [hp]; simp
   refine Ev.to (Ev.step (f := fun k => (simplify_Nullable.f k x.f0 x.f1 x.f2).bind fun t => if t = true then simplify_Nullable.l1 k e.f2 (e.f2.length : Int) ((pre ++ [x]).length : Int) else some false) (fun k => ?_) (Ev.bind (ih x hx (hw.kid hx) (kid_shp hs hx)) (Ev.if (fun _ => ihr (pre ++ [x]) (by rw [hp]; exact shift_mid pre x r)) (fun _ => Ev.now _)))) ?_
   ·simp only [simplify_Nullable.l1]
    rw [← next_mid (r := r) (x := x) (by rw [← hp]; exact hw.len), hp, if_pos (lt_mid pre x r), if_pos (ge0 _), if_pos (lt_mid pre x r), rd_mid]
   ·rw [nulAll]; cases nul x <;> simp
 have j2 : ∀ b, Ev (fun k => simplify_Nullable.j2 k e.f0 b e.f0 e.f1 e.f2) (if b = true then nulAll e.f2 else if e.f0 = 8 then !nulOne e.f2 else false) := fun b =>
  Ev.step (f := fun k => if b = true then simplify_Nullable.l1 k e.f2 (e.f2.length : Int) 0 else if e.f0 = 8 then (if 0 < (e.f2.length : Int) then ((simplify_Nullable.f k ((rd_T24 e.f2 0).f0) ((rd_T24 e.f2 0).f1) ((rd_T24 e.f2 0).f2)).bind fun t => some (!t)) else none) else some false) (fun k => by simp only [simplify_Nullable.j2]) (Ev.if (fun _ => lall e.f2 [] rfl) (fun _ => Ev.if (fun h8 => by
   obtain ⟨x, hx⟩ := not_one hs (.inr h8)
   have hm : x ∈ e.f2 := by rw [hx]; simp
   have hx' := ih x hm (hw.kid hm) (kid_shp hs hm)
   rw [hx]
   simp only [List.length_singleton, rd_head]
   simp only [show ((0 : Int) < ((1 : Nat) : Int)) = True from by simp, if_true]
   exact Ev.to (Ev.bind (f := fun _ t => some (!t)) hx' (Ev.now _)) (by simp [nulOne])) (fun _ => Ev.now _)))
 have j0 : ∀ b, Ev (fun k => simplify_Nullable.j0 k e.f0 b e.f0 e.f1 e.f2) (if b = true then true else if e.f0 = 4 then nulOne e.f2 else if e.f0 = 5 then nulAll e.f2 else if e.f0 = 6 then nulAll e.f2 else if e.f0 = 8 then !nulOne e.f2 else false) := fun b =>
  Ev.to (Ev.step (f := fun k => if b = true then some true else if e.f0 = 4 then simplify_Nullable.l0 k e.f2 (e.f2.length : Int) 0 else if e.f0 = 5 then simplify_Nullable.j2 k e.f0 (e.f0 == 5) e.f0 e.f1 e.f2 else simplify_Nullable.j2 k e.f0 (e.f0 == 6) e.f0 e.f1 e.f2) (fun k => by simp only [simplify_Nullable.j0]) (Ev.if (fun _ => Ev.now _) (fun _ => Ev.if (fun _ => lone e.f2 [] rfl) (fun _ => Ev.if (fun _ => j2 _) (fun _ => j2 _))))) (by
   cases b with
   | true => simp
   | false =>
    by_cases h4 : e.f0 = 4
    ·simp [h4]
    ·by_cases h5 : e.f0 = 5
     ·simp [h5]
     ·by_cases h6 : e.f0 = 6 <;> simp [h4, h5, h6])
 refine Ev.to (Ev.step (f := fun k => if e.f0 = 2 then simplify_Nullable.j0 k e.f0 (e.f0 == 2) e.f0 e.f1 e.f2 else simplify_Nullable.j0 k e.f0 (e.f0 == 7) e.f0 e.f1 e.f2) (fun k => by simp only [simplify_Nullable.f]) (Ev.if (fun _ => j0 _) (fun _ => j0 _))) ?_
 rw [nul_mk]
 by_cases h2 : e.f0 = 2
 ·simp [h2]
 ·by_cases h7 : e.f0 = 7
  ·simp [h7]
  ·by_cases h4 : e.f0 = 4
   ·simp [h4]
   ·by_cases h5 : e.f0 = 5
    ·simp [h5]
    ·by_cases h6 : e.f0 = 6 <;> simp [h2, h7, h4, h5, h6]
theorem nul_ref (e : S24) : WF e → Ev (fun k => semigroupref04_Nullable.f k e.f0 e.f1 e.f2) (nul e) := by
 induction e using ind with
 | h e ih =>
 intro hw
 have j2 : ∀ a b c, Ev (fun k => semigroupref04_Nullable.j2 k a b e.f0 c) (if c = true then a else if e.f0 = 8 then !b else false) := fun a b c =>
  Ev.step (f := fun k => if c = true then some a else if e.f0 = 8 then some (!b) else some false) (fun k => by simp only [semigroupref04_Nullable.j2]) (Ev.if (fun _ => Ev.now _) (fun _ => Ev.if (fun _ => Ev.now _) (fun _ => Ev.now _)))
 have j1 : ∀ a b c, Ev (fun k => semigroupref04_Nullable.j1 k a b e.f0 c) (if c = true then true else if e.f0 = 4 then b else if e.f0 = 5 ∨ e.f0 = 6 then a else if e.f0 = 8 then !b else false) := fun a b c =>
  Ev.to (Ev.step (f := fun k => if c = true then some true else if e.f0 = 4 then some b else if e.f0 = 5 then semigroupref04_Nullable.j2 k a b e.f0 (e.f0 == 5) else semigroupref04_Nullable.j2 k a b e.f0 (e.f0 == 6)) (fun k => by simp only [semigroupref04_Nullable.j1]) (Ev.if (fun _ => Ev.now _) (fun _ => Ev.if (fun _ => Ev.now _) (fun _ => Ev.if (fun _ => j2 _ _ _) (fun _ => j2 _ _ _))))) (by
   by_cases h5 : e.f0 = 5
   ·simp [h5]
   ·by_cases h6 : e.f0 = 6 <;> simp [h5, h6])
 have loop : ∀ (r pre : List S24), e.f2 = pre ++ r → ∀ a b, Ev (fun k => semigroupref04_Nullable.l0 k a b e.f2 (e.f2.length : Int) (pre.length : Int) e.f0 e.f1 e.f2) (if e.f0 = 2 ∨ e.f0 = 7 then true else if e.f0 = 4 then (b || nulOne r) else if e.f0 = 5 ∨ e.f0 = 6 then (a && nulAll r) else if e.f0 = 8 then !(b || nulOne r) else false) := by
  intro r
  induction r with
  | nil =>
   intro pre hp a b
   refine Ev.to (Ev.step (f := fun k => if e.f0 = 2 then semigroupref04_Nullable.j1 k a b e.f0 (e.f0 == 2) else semigroupref04_Nullable.j1 k a b e.f0 (e.f0 == 7)) (fun k => by simp only [semigroupref04_Nullable.l0]; rw [hp, if_neg (not_lt_end pre)]) (Ev.if (fun _ => j1 _ _ _) (fun _ => j1 _ _ _))) ?_
   by_cases h2 : e.f0 = 2
   ·simp [h2]
   ·by_cases h7 : e.f0 = 7
    ·simp [h7]
    ·simp [h2, h7, nulOne, nulAll]
  | cons x r ihr =>
   intro pre hp a b
   have hx : x ∈ e.f2 := by rw [hp]; simp
   have nx := ihr (pre ++ [x]) (by rw [hp]; exact shift_mid pre x r)
   refine Ev.to (Ev.step (f := fun k => (semigroupref04_Nullable.f k x.f0 x.f1 x.f2).bind fun t => if a = true then (if b = true then semigroupref04_Nullable.l0 k t true e.f2 (e.f2.length : Int) ((pre ++ [x]).length : Int) e.f0 e.f1 e.f2 else semigroupref04_Nullable.l0 k t t e.f2 (e.f2.length : Int) ((pre ++ [x]).length : Int) e.f0 e.f1 e.f2) else (if b = true then semigroupref04_Nullable.l0 k false true e.f2 (e.f2.length : Int) ((pre ++ [x]).length : Int) e.f0 e.f1 e.f2 else semigroupref04_Nullable.l0 k false t e.f2 (e.f2.length : Int) ((pre ++ [x]).length : Int) e.f0 e.f1 e.f2)) (fun k => ?_) (Ev.bind (ih x hx (hw.kid hx)) (Ev.if (fun _ => Ev.if (fun _ => nx _ _) (fun _ => nx _ _)) (fun _ => Ev.if (fun _ => nx _ _) (fun _ => nx _ _))))) ?_
   ·simp only [semigroupref04_Nullable.l0]
    rw [← next_mid (r := r) (x := x) (by rw [← hp]; exact hw.len), hp, if_pos (lt_mid pre x r), if_pos (ge0 _), if_pos (lt_mid pre x r), rd_mid]
   ·rw [nulOne, nulAll]
    cases a <;> cases b <;> simp
 refine Ev.to (Ev.step (f := fun k => semigroupref04_Nullable.l0 k true false e.f2 (e.f2.length : Int) 0 e.f0 e.f1 e.f2) (fun k => by simp only [semigroupref04_Nullable.f]) (loop e.f2 [] rfl true false)) ?_
 rw [nul_mk]; simp
end Go.Proofs.Ytjofkebiacaciaa.T04
end
section
namespace Go.Proofs.Ytjofkebiacaciaa.T04
open Go Go.RowKit Go.Proofs.Ytjofkebiacaciaa.PAll Go.Proofs.YtjofkebiacaciaaW.PrintWords Go.Proofs.YtjofkebiacaciaaW.PrintLast Go.Proofs.YtjofkebiacaciaaW.PrintMore Go.Proofs.Ytjofkebiacaciaa.AllRead24
set_option linter.all false
def lev (o : Int) : Int := if o = 4 then 1 else if o = 6 then 2 else if o = 5 then 3 else if o = 8 then 4 else if o = 7 then 5 else 6
theorem lev_prog (o : Int) : expr_level.f o = some (lev o) := by
 unfold expr_level.f lev
 by_cases h4 : o = 4
 ·simp [h4]
 ·by_cases h6 : o = 6
  ·simp [h6]
  ·by_cases h5 : o = 5
   ·simp [h5]
   ·by_cases h8 : o = 8
    ·simp [h8]
    ·by_cases h7 : o = 7 <;> simp [h4, h5, h6, h7, h8]
theorem lev_ref (o : Int) : semigroupref04_level.f o = some (lev o) := by
 rw [← lev_prog]; rfl
theorem lev_pos (o : Int) : 1 ≤ lev o ∧ lev o ≤ 6 := by unfold lev; repeat (first | omega | split)
mutual
def body : S24 → List Int
 | ⟨o, a, l⟩ => if o = 1 then [48] else if o = 2 then [49] else if o = 3 then [(97 + a % 256) % 256] else if o = 8 then [33] ++ bodyH 4 l else if o = 7 then bodyH 5 l ++ [42] else if o = 4 then bodies [124] 2 true l else if o = 6 then bodies [38] 3 true l else bodies [] 4 true l
def bodyH (least : Int) : List S24 → List Int
 | [] => []
 | x :: _ => if lev x.f0 < least then [40] ++ body x ++ [41] else body x
def bodies (sep : List Int) (least : Int) (first : Bool) : List S24 → List Int
 | [] => []
 | x :: r => (if first = true then [] else sep) ++ ((if lev x.f0 < least then [40] ++ body x ++ [41] else body x) ++ bodies sep least false r)
end
def par (least : Int) (x : S24) : List Int := if lev x.f0 < least then [40] ++ body x ++ [41] else body x
theorem body_mk (e : S24) : body e = if e.f0 = 1 then [48] else if e.f0 = 2 then [49] else if e.f0 = 3 then [(97 + e.f1 % 256) % 256] else if e.f0 = 8 then [33] ++ bodyH 4 e.f2 else if e.f0 = 7 then bodyH 5 e.f2 ++ [42] else if e.f0 = 4 then bodies [124] 2 true e.f2 else if e.f0 = 6 then bodies [38] 3 true e.f2 else bodies [] 4 true e.f2 := by cases e; rw [body]
theorem bodyH_cons (least : Int) (x : S24) (r : List S24) : bodyH least (x :: r) = par least x := by rw [bodyH]; rfl
theorem bodies_cons (sep : List Int) (least : Int) (b : Bool) (x : S24) (r : List S24) : bodies sep least b (x :: r) = (if b = true then [] else sep) ++ (par least x ++ bodies sep least false r) := by rw [bodies]; rfl
theorem par_zero (x : S24) : par 0 x = body x := by unfold par; rw [if_neg (by have := lev_pos x.f0; omega)]
theorem body_len (e : S24) : (body e).length + 3 ≤ 4 * size e := by
 induction e using ind with
 | h e ih =>
 have hp : ∀ (least : Int) x, x ∈ e.f2 → (par least x).length + 1 ≤ 4 * size x := by
  intro least x hx
  have := ih x hx
  unfold par
  split
  ·simp; omega
  ·omega
 have hb : ∀ (sep : List Int), sep.length ≤ 1 → ∀ (least : Int) (l : List S24), (∀ x, x ∈ l → x ∈ e.f2) → ∀ b, (bodies sep least b l).length ≤ 4 * sizes l := by
  intro sep hs least l
  induction l with
  | nil => intro _ b; simp [bodies]
  | cons x r ihr =>
   intro hm b
   have h1 := hp least x (hm x (by simp))
   have h2 := ihr (fun y hy => hm y (by simp [hy])) false
   rw [bodies_cons, sizes]
   cases b
   ·simp; omega
   ·simp; omega
 have hh : ∀ least : Int, (bodyH least e.f2).length ≤ 4 * sizes e.f2 - 1 := by
  intro least
  cases hl : e.f2 with
  | nil => simp [bodyH]
  | cons x r =>
   have h1 := hp least x (by rw [hl]; simp)
   rw [bodyH_cons, sizes]; omega
 have h0 := hb [124] (by simp) 2 e.f2 (fun _ h => h) true
 have h1 := hb [38] (by simp) 3 e.f2 (fun _ h => h) true
 have h2 := hb [] (by simp) 4 e.f2 (fun _ h => h) true
 have h3 := hh 4
 have h4 := hh 5
 rw [body_mk, size_mk]
 repeat (first | split | (simp; omega) | (simp; done))
theorem par_len (least : Int) (x : S24) : (par least x).length + 1 ≤ 4 * size x := by
 have := body_len x
 unfold par
 split
 ·simp; omega
 ·omega
theorem text_ev (e : S24) : WF e → shp 6 e = true → size e ≤ 400 → ∀ (b : List Int) (least : Int), b.length + 4 * size e + depth e ≤ 100000 → least ≤ 7 → Ev (fun k => expr_text.f k b e.f0 e.f1 e.f2 least) (b ++ par least e) := by
 induction e using ind with
 | h e ih =>
 intro hw hs hz
 have hd : 1 ≤ depth e := depth_pos e
 have kid : ∀ x, x ∈ e.f2 → size x ≤ 400 ∧ size x ≤ sizes e.f2 ∧ depth x + 1 ≤ depth e := fun x hx => by have h1 := sizes_mem hx; have h2 := depths_mem hx; rw [size_mk e] at hz; rw [depth_mk e]; omega
 have loop : ∀ (s : Int) (least : Int), wrap64 (lev e.f0 + 1) = least → least ≤ 7 → ∀ (r pre : List S24), e.f2 = pre ++ r → ∀ b : List Int, b.length + 4 * sizes r + depth e ≤ 100000 →
   Ev (fun k => expr_text.l0 k b s e.f2 (e.f2.length : Int) (pre.length : Int) e.f0 e.f1 e.f2) (b ++ bodies (if s = 0 then [] else [s]) least (decide (pre = [])) r) := by
  intro s least hle hl7 r
  induction r with
  | nil =>
   intro pre hp b hb
   exact Ev.to (Ev.step (f := fun _ => some b) (fun k => by simp only [expr_text.l0]; rw [hp, if_neg (not_lt_end pre)]) (Ev.now _)) (by simp [bodies])
  | cons x r ihr =>
   intro pre hp b hb
   have hx : x ∈ e.f2 := by rw [hp]; simp
   obtain ⟨kx, ky, kz⟩ := kid x hx
   simp only [sizes] at hb
   have hn : wrap64 ((pre.length : Int) + 1) = ((pre ++ [x]).length : Int) := next_mid (r := r) (x := x) (by rw [← hp]; exact hw.len)
   have hlt : (pre.length : Int) < (e.f2.length : Int) := by rw [hp]; exact lt_mid pre x r
   have hrd : rd_T24 e.f2 (pre.length : Int) = x := by rw [hp]; exact rd_mid pre x r
   have tl : ∀ b' : List Int, b'.length + 4 * size x + 4 * sizes r + depth e ≤ 100001 → Ev (fun k => (expr_level.f e.f0).bind fun t => (expr_text.f k b' x.f0 x.f1 x.f2 (wrap64 (t + 1))).bind fun u => expr_text.l0 k u s e.f2 (e.f2.length : Int) (wrap64 ((pre.length : Int) + 1)) e.f0 e.f1 e.f2) (b' ++ (par least x ++ bodies (if s = 0 then [] else [s]) least false r)) := by
    intro b' hb'
    have pl := par_len least x
    simp only [lev_prog, Option.bind_some, hle, hn]
    refine Ev.to (Ev.bind (ih x hx (hw.kid hx) (kid_shp hs hx) kx b' least (by omega) hl7) (ihr (pre ++ [x]) (by rw [hp]; exact shift_mid pre x r) (b' ++ par least x) (by simp; omega))) ?_
    simp
   rw [bodies_cons]
   by_cases h0 : (pre.length : Int) > 0
   ·have hne : pre ≠ [] := by rintro rfl; simp at h0
    rw [decide_eq_false hne]
    by_cases hs0 : s = 0
    ·refine Ev.to (Ev.step (fun k => by simp only [expr_text.l0]; rw [if_pos hlt, if_pos (ge0 _), if_pos hlt, if_pos h0, hrd, hs0]) (Ev.step (fun k => by simp only [expr_text.j2]; rw [if_neg (by decide)]) (by rw [hs0] at tl; exact tl b (by omega)))) ?_
     simp [hs0]
    ·have hb1 : (s != 0) = true := by simp [hs0]
     refine Ev.to (Ev.step (fun k => by simp only [expr_text.l0]; rw [if_pos hlt, if_pos (ge0 _), if_pos hlt, if_pos h0, hrd, hb1]) (Ev.step (f := fun k => (expr_level.f e.f0).bind fun t => (expr_text.f k (b ++ [s]) x.f0 x.f1 x.f2 (wrap64 (t + 1))).bind fun u => expr_text.l0 k u s e.f2 (e.f2.length : Int) (wrap64 ((pre.length : Int) + 1)) e.f0 e.f1 e.f2) (fun k => by
      simp only [expr_text.j2]
      rw [if_pos trivial]
      simp only [Option.bind_some]
      rw [if_pos (by simp; omega)]) (tl (b ++ [s]) (by simp; omega)))) ?_
     simp [hs0]
   ·have hpe : pre = [] := List.eq_nil_of_length_eq_zero (by omega)
    rw [decide_eq_true hpe]
    refine Ev.to (Ev.step (fun k => by simp only [expr_text.l0]; rw [if_pos hlt, if_pos (ge0 _), if_pos hlt, if_neg h0, hrd]) (Ev.step (fun k => by simp only [expr_text.j2]; rw [if_neg (by decide)]) (tl b (by omega)))) ?_
    simp
 have one : ∀ b least, b.length + 4 * sizes e.f2 + depth e ≤ 100000 → ¬ lev e.f0 < least → Ev (fun k => expr_text.f k b e.f0 e.f1 e.f2 least) (b ++ body e) := by
  intro b least hb hl
  have hsz := size_mk e
  have lp := lev_pos e.f0
  have st : ∀ {g : Nat → Option (List Int)} {v : List Int}, (∀ k, expr_text.f (k + 1) b e.f0 e.f1 e.f2 least = g k) → Ev g v → Ev (fun k => expr_text.f k b e.f0 e.f1 e.f2 least) v := fun h1 h2 => Ev.step h1 h2
  by_cases h1 : e.f0 = 1
  ·refine st (g := fun _ => some (b ++ [48])) (fun k => by simp only [expr_text.f, lev_prog, Option.bind_some]; rw [if_neg hl, if_pos h1, if_pos (by simp; omega)]) (Ev.to (Ev.now _) (by rw [body_mk, if_pos h1]))
  by_cases h2 : e.f0 = 2
  ·refine st (g := fun _ => some (b ++ [49])) (fun k => by simp only [expr_text.f, lev_prog, Option.bind_some]; rw [if_neg hl, if_neg h1, if_pos h2, if_pos (by simp; omega)]) (Ev.to (Ev.now _) (by rw [body_mk, if_neg h1, if_pos h2]))
  by_cases h3 : e.f0 = 3
  ·refine st (g := fun _ => some (b ++ [(97 + e.f1 % 256) % 256])) (fun k => by simp only [expr_text.f, lev_prog, Option.bind_some]; rw [if_neg hl, if_neg h1, if_neg h2, if_pos h3, if_pos (by simp; omega)]) (Ev.to (Ev.now _) (by rw [body_mk, if_neg h1, if_neg h2, if_pos h3]))
  by_cases h8 : e.f0 = 8
  ·obtain ⟨x, hx⟩ := not_one hs (.inr h8)
   have hm : x ∈ e.f2 := by rw [hx]; simp
   obtain ⟨kx, ky, kz⟩ := kid x hm
   refine st (g := fun k => (expr_text.f k (b ++ [33]) x.f0 x.f1 x.f2 4).bind fun t => some t) (fun k => by simp only [expr_text.f, lev_prog, Option.bind_some]; rw [if_neg hl, if_neg h1, if_neg h2, if_neg h3, if_pos h8, if_pos (by simp; omega), hx, if_pos (by simp), rd_head]) ?_
   refine Ev.to (Ev.bind (f := fun _ t => some t) (ih x hm (hw.kid hm) (kid_shp hs hm) kx (b ++ [33]) 4 (by simp; omega) (by omega)) (Ev.now _)) ?_
   rw [body_mk, if_neg h1, if_neg h2, if_neg h3, if_pos h8, hx, bodyH_cons]; simp
  by_cases h7 : e.f0 = 7
  ·obtain ⟨x, hx⟩ := not_one hs (.inl h7)
   have hm : x ∈ e.f2 := by rw [hx]; simp
   obtain ⟨kx, ky, kz⟩ := kid x hm
   have pl := par_len 5 x
   refine st (g := fun k => (expr_text.f k b x.f0 x.f1 x.f2 5).bind fun t => (some [42]).bind fun y => if t.length + y.length < 140737488355328 then some (t ++ y) else none) (fun k => by simp only [expr_text.f, lev_prog, Option.bind_some]; rw [if_neg hl, if_neg h1, if_neg h2, if_neg h3, if_neg h8, if_pos h7, hx, if_pos (by simp), rd_head]) ?_
   refine Ev.to (Ev.bind (ih x hm (hw.kid hm) (kid_shp hs hm) kx b 5 (by omega) (by omega)) (by
    simp only [Option.bind_some]
    rw [if_pos (by simp; omega)]
    exact Ev.now _)) ?_
   rw [body_mk, if_neg h1, if_neg h2, if_neg h3, if_neg h8, if_pos h7, hx, bodyH_cons]; simp
  have j0 : ∀ (s least' : Int), wrap64 (lev e.f0 + 1) = least' → least' ≤ 7 → Ev (fun k => expr_text.j0 k b s e.f0 e.f1 e.f2) (b ++ bodies (if s = 0 then [] else [s]) least' true e.f2) := fun s least' hle hl7 =>
   Ev.step (f := fun k => expr_text.l0 k b s e.f2 (e.f2.length : Int) 0 e.f0 e.f1 e.f2) (fun k => by simp only [expr_text.j0]) (loop s least' hle hl7 e.f2 [] rfl b (by omega))
  by_cases h4 : e.f0 = 4
  ·refine st (g := fun k => expr_text.j0 k b 124 e.f0 e.f1 e.f2) (fun k => by simp only [expr_text.f, lev_prog, Option.bind_some]; rw [if_neg hl, if_neg h1, if_neg h2, if_neg h3, if_neg h8, if_neg h7, if_pos h4]) (Ev.to (j0 124 2 (by rw [h4]; simp [lev, wrap64]) (by omega)) ?_)
   rw [body_mk, if_neg h1, if_neg h2, if_neg h3, if_neg h8, if_neg h7, if_pos h4]; rfl
  by_cases h6 : e.f0 = 6
  ·refine st (g := fun k => expr_text.j0 k b 38 e.f0 e.f1 e.f2) (fun k => by simp only [expr_text.f, lev_prog, Option.bind_some]; rw [if_neg hl, if_neg h1, if_neg h2, if_neg h3, if_neg h8, if_neg h7, if_neg h4, if_pos h6]) (Ev.to (j0 38 3 (by rw [h6]; simp [lev, wrap64]) (by omega)) ?_)
   rw [body_mk, if_neg h1, if_neg h2, if_neg h3, if_neg h8, if_neg h7, if_neg h4, if_pos h6]; rfl
  have h5 : e.f0 = 5 := by
   have hk := hs
   rw [shp_mk] at hk
   simp only [Bool.and_eq_true] at hk
   have := hk.1
   unfold opKids at this
   rw [if_neg (by omega), if_neg (by omega)] at this
   by_cases h5 : e.f0 = 5
   ·exact h5
   ·rw [if_neg (by omega)] at this; cases this
  refine st (g := fun k => expr_text.j0 k b 0 e.f0 e.f1 e.f2) (fun k => by simp only [expr_text.f, lev_prog, Option.bind_some]; rw [if_neg hl, if_neg h1, if_neg h2, if_neg h3, if_neg h8, if_neg h7, if_neg h4, if_neg h6]) (Ev.to (j0 0 4 (by rw [h5]; simp [lev, wrap64]) (by omega)) ?_)
  rw [body_mk, if_neg h1, if_neg h2, if_neg h3, if_neg h8, if_neg h7, if_neg h4, if_neg h6]; rfl
 intro b least hb hl7
 have hsz := size_mk e
 by_cases hl : lev e.f0 < least
 ·have bl := body_len e
  refine Ev.to (Ev.step (f := fun k => (expr_text.f k (b ++ [40]) e.f0 e.f1 e.f2 0).bind fun t => (some [41]).bind fun y => if t.length + y.length < 140737488355328 then some (t ++ y) else none) (fun k => by simp only [expr_text.f, lev_prog, Option.bind_some]; rw [if_pos hl, if_pos (by simp; omega)]) (Ev.bind (one (b ++ [40]) 0 ?_ (by have := lev_pos e.f0; omega)) (by
    simp only [Option.bind_some]
    rw [if_pos (by simp; omega)]
    exact Ev.now _))) ?_
  ·simp; omega
  ·unfold par; rw [if_pos hl]; simp
 ·exact Ev.to (one b least (by omega) hl) (by unfold par; rw [if_neg hl])
theorem format_prog (e : S24) (hw : WF e) : Ev (fun k => expr_Format.f k e.f0 e.f1 e.f2) (if Vld e then strOfNums (body e) else ⟨#[]⟩) := by
 refine Ev.congr (f := fun k => (expr_valid.f k e.f0 e.f1 e.f2).bind fun t => if t = true then ((expr_text.f k ([] : List Int) e.f0 e.f1 e.f2 0).bind fun u => some (strOfNums u)) else some (⟨#[]⟩ : ByteArray)) (fun k => by simp only [expr_Format.f]) ?_
 refine Ev.bind (valid_prog e hw) ?_
 by_cases h : Vld e
 ·have ht := text_ev e hw h.2 h.1.1 [] 0 (by have := h.1.1; have := depth_le_size e; simp; omega) (by omega)
  rw [decide_eq_true h, if_pos h]
  simp only [if_true]
  exact Ev.bind (f := fun _ u => some (strOfNums u)) ht (Ev.to (Ev.now _) (by rw [par_zero]; rfl))
 ·rw [decide_eq_false h, if_neg h]
  simp only [if_neg (show ¬ (false = true) by decide)]
  exact Ev.now _
end Go.Proofs.Ytjofkebiacaciaa.T04
end
section
namespace Go.Proofs.Ytjofkebiacaciaa.T04
open Go Go.RowKit Go.Proofs.Ytjofkebiacaciaa.PAll Go.Proofs.YtjofkebiacaciaaW.PrintWords Go.Proofs.YtjofkebiacaciaaW.PrintLast Go.Proofs.YtjofkebiacaciaaW.PrintMore Go.Proofs.Ytjofkebiacaciaa.AllRead24
set_option linter.all false
theorem strOf_app (a b : List Int) : strOfNums (a ++ b) = strOfNums a ++ strOfNums b := by
 apply ByteArray.ext
 simp [strOfNums, ByteArray.data_append]
theorem strOf_size (a : List Int) : (strOfNums a).size = a.length := by simp [strOfNums, ByteArray.size]
theorem format_ref (e : S24) : WF e → shp 6 e = true → size e ≤ 400 → ∀ d, depth e ≤ d → Ev (fun k => (fmtK d).f k e.f0 e.f1 e.f2) (strOfNums (body e)) := by
 induction e using ind with
 | h e ih =>
 intro hw hs hz d hd
 cases d with
 | zero => have := depth_pos e; omega
 | succ d =>
 have kid : ∀ x, x ∈ e.f2 → size x ≤ sizes e.f2 ∧ depth x ≤ d := fun x hx => by have h1 := sizes_mem hx; have h2 := depths_mem hx; rw [depth_mk e] at hd; omega
 have hsz := size_mk e
 have part : ∀ x, x ∈ e.f2 → ∀ least : Int, Ev (fun k => @semigroupref04_part.f (fmtK d) k x.f0 x.f1 x.f2 least) (strOfNums (par least x)) := by
  intro x hx least
  obtain ⟨k1, k2⟩ := kid x hx
  have hf : Ev (fun k => @semigroupref04_Format.f (fmtK d) k x.f0 x.f1 x.f2) (strOfNums (body x)) := ih x hx (hw.kid hx) (kid_shp hs hx) (by omega) d k2
  have bl := body_len x
  refine Ev.congr (f := fun k => if lev x.f0 < least then ((@semigroupref04_Format.f (fmtK d) k x.f0 x.f1 x.f2).bind fun t => (if 1 + t.size ≤ 9223372036854775807 then (if ((⟨#[40]⟩ : ByteArray) ++ t).size + 1 ≤ 9223372036854775807 then (some (((⟨#[40]⟩ : ByteArray) ++ t) ++ (⟨#[41]⟩ : ByteArray))) else (none)) else (none))) else ((@semigroupref04_Format.f (fmtK d) k x.f0 x.f1 x.f2).bind fun t => some t)) (fun k => by simp only [semigroupref04_part.f, lev_ref, Option.bind_some]) ?_
  unfold par
  by_cases hl : lev x.f0 < least
  ·simp only [if_pos hl]
   refine Ev.bind hf ?_
   have e1 : 1 + (strOfNums (body x)).size ≤ 9223372036854775807 := by rw [strOf_size]; omega
   have e2 : ((⟨#[40]⟩ : ByteArray) ++ strOfNums (body x)).size + 1 ≤ 9223372036854775807 := by rw [ByteArray.size_append, strOf_size]; show 1 + _ + 1 ≤ _; omega
   simp only [if_pos e1, if_pos e2]
   refine Ev.to (Ev.now _) ?_
   rw [strOf_app, strOf_app]; rfl
  ·simp only [if_neg hl]
   exact Ev.bind (f := fun _ t => some t) hf (Ev.now _)
 have loop : ∀ (s : List Int) (sb : ByteArray), sb = strOfNums s → s.length ≤ 1 → ∀ (least : Int) (r pre : List S24), e.f2 = pre ++ r → ∀ b : List Int, b.length + 4 * sizes r ≤ 100000 →
   Ev (fun k => @semigroupref04_FormatS.l0 (fmtK d) k (strOfNums b) sb least e.f2 (e.f2.length : Int) (pre.length : Int)) (strOfNums (b ++ bodies s least (decide (pre = [])) r)) := by
  intro s sb hsb hs1 least r
  induction r with
  | nil =>
   intro pre hp b hb
   exact Ev.to (Ev.step (f := fun _ => some (strOfNums b)) (fun k => by simp only [semigroupref04_FormatS.l0]; rw [hp, if_neg (not_lt_end pre)]) (Ev.now _)) (by simp [bodies])
  | cons x r ihr =>
   intro pre hp b hb
   have hx : x ∈ e.f2 := by rw [hp]; simp
   have pl := par_len least x
   obtain ⟨kx, ky⟩ := kid x hx
   simp only [sizes] at hb
   have hn : wrap64 ((pre.length : Int) + 1) = ((pre ++ [x]).length : Int) := next_mid (r := r) (x := x) (by rw [← hp]; exact hw.len)
   have hlt : (pre.length : Int) < (e.f2.length : Int) := by rw [hp]; exact lt_mid pre x r
   have hrd : rd_T24 e.f2 (pre.length : Int) = x := by rw [hp]; exact rd_mid pre x r
   rw [bodies_cons]
   by_cases h0 : (pre.length : Int) > 0
   ·have hne : pre ≠ [] := by rintro rfl; simp at h0
    rw [decide_eq_false hne]
    have e0 : (strOfNums b).size + sb.size ≤ 9223372036854775807 := by rw [hsb, strOf_size, strOf_size]; omega
    have e1 : (strOfNums b ++ sb).size + (strOfNums (par least x)).size ≤ 9223372036854775807 := by rw [hsb, ByteArray.size_append, strOf_size, strOf_size, strOf_size]; omega
    refine Ev.to (Ev.step (f := fun k => (@semigroupref04_part.f (fmtK d) k x.f0 x.f1 x.f2 least).bind fun t => if (strOfNums b ++ sb).size + t.size ≤ 9223372036854775807 then @semigroupref04_FormatS.l0 (fmtK d) k ((strOfNums b ++ sb) ++ t) sb least e.f2 (e.f2.length : Int) ((pre ++ [x]).length : Int) else none) (fun k => by simp only [semigroupref04_FormatS.l0]; rw [if_pos hlt, if_pos (ge0 _), if_pos hlt, if_pos h0, hrd, if_pos e0, hn]) (Ev.bind (part x hx least) (by
     simp only [if_pos e1]
     rw [hsb, ← strOf_app, ← strOf_app, ← hsb]
     exact ihr (pre ++ [x]) (by rw [hp]; exact shift_mid pre x r) (b ++ s ++ par least x) (by simp; omega)))) ?_
    simp
   ·have hpe : pre = [] := List.eq_nil_of_length_eq_zero (by omega)
    rw [decide_eq_true hpe]
    have e1 : (strOfNums b).size + (strOfNums (par least x)).size ≤ 9223372036854775807 := by rw [strOf_size, strOf_size]; omega
    refine Ev.to (Ev.step (f := fun k => (@semigroupref04_part.f (fmtK d) k x.f0 x.f1 x.f2 least).bind fun t => if (strOfNums b).size + t.size ≤ 9223372036854775807 then @semigroupref04_FormatS.l0 (fmtK d) k (strOfNums b ++ t) sb least e.f2 (e.f2.length : Int) ((pre ++ [x]).length : Int) else none) (fun k => by simp only [semigroupref04_FormatS.l0]; rw [if_pos hlt, if_pos (ge0 _), if_pos hlt, if_neg h0, hrd, hn]) (Ev.bind (part x hx least) (by
     simp only [if_pos e1]
     rw [← strOf_app]
     exact ihr (pre ++ [x]) (by rw [hp]; exact shift_mid pre x r) (b ++ par least x) (by simp; omega)))) ?_
    simp
 have j0 : ∀ (s : List Int) (sb : ByteArray), sb = strOfNums s → s.length ≤ 1 → ∀ least : Int, Ev (fun k => @semigroupref04_FormatS.j0 (fmtK d) k ⟨#[]⟩ sb least e.f0 e.f1 e.f2) (strOfNums (bodies s least true e.f2)) := fun s sb h1 h2 least =>
  Ev.step (f := fun k => @semigroupref04_FormatS.l0 (fmtK d) k (strOfNums []) sb least e.f2 (e.f2.length : Int) 0) (fun k => by simp only [semigroupref04_FormatS.j0]; rfl) (loop s sb h1 h2 least e.f2 [] rfl [] (by simp; omega))
 show Ev (fun k => @semigroupref04_FormatS.f (fmtK d) k e.f0 e.f1 e.f2) _
 rw [body_mk]
 by_cases h1 : e.f0 = 1
 ·rw [if_pos h1]; exact Ev.congr (f := fun _ => some (⟨#[48]⟩ : ByteArray)) (fun k => by simp only [semigroupref04_FormatS.f]; rw [if_pos h1]) (Ev.now _)
 rw [if_neg h1]
 by_cases h2 : e.f0 = 2
 ·rw [if_pos h2]; exact Ev.congr (f := fun _ => some (⟨#[49]⟩ : ByteArray)) (fun k => by simp only [semigroupref04_FormatS.f]; rw [if_neg h1, if_pos h2]) (Ev.now _)
 rw [if_neg h2]
 by_cases h3 : e.f0 = 3
 ·have hl : 0 ≤ e.f1 ∧ e.f1 < 6 := by
   rw [shp_mk] at hs
   simp only [Bool.and_eq_true] at hs
   have := hs.2.1
   unfold letOK at this
   rw [if_pos h3] at this
   exact of_decide_eq_true this
  rw [if_pos h3]
  exact Ev.to (Ev.congr (f := fun _ => some (strOfNums [(wrap64 (97 + e.f1)) % 256])) (fun k => by simp only [semigroupref04_FormatS.f]; rw [if_neg h1, if_neg h2, if_pos h3]) (Ev.now _)) (by rw [w64 (by omega) (by omega), show e.f1 % 256 = e.f1 from by omega])
 rw [if_neg h3]
 by_cases h8 : e.f0 = 8
 ·obtain ⟨x, hx⟩ := not_one hs (.inr h8)
  have hm : x ∈ e.f2 := by rw [hx]; simp
  obtain ⟨kx, ky⟩ := kid x hm
  have pl := par_len 4 x
  have e1 : 1 + (strOfNums (par 4 x)).size ≤ 9223372036854775807 := by rw [strOf_size]; omega
  rw [if_pos h8]
  refine Ev.to (Ev.congr (f := fun k => (@semigroupref04_part.f (fmtK d) k x.f0 x.f1 x.f2 4).bind fun t => if 1 + t.size ≤ 9223372036854775807 then some ((⟨#[33]⟩ : ByteArray) ++ t) else none) (fun k => by simp only [semigroupref04_FormatS.f]; rw [if_neg h1, if_neg h2, if_neg h3, if_pos h8, hx, if_pos (by simp), rd_head]) (Ev.bind (part x hm 4) (by simp only [if_pos e1]; exact Ev.now _))) ?_
  rw [hx, bodyH_cons, strOf_app]; rfl
 rw [if_neg h8]
 by_cases h7 : e.f0 = 7
 ·obtain ⟨x, hx⟩ := not_one hs (.inl h7)
  have hm : x ∈ e.f2 := by rw [hx]; simp
  obtain ⟨kx, ky⟩ := kid x hm
  have pl := par_len 5 x
  have e1 : (strOfNums (par 5 x)).size + 1 ≤ 9223372036854775807 := by rw [strOf_size]; omega
  rw [if_pos h7]
  refine Ev.to (Ev.congr (f := fun k => (@semigroupref04_part.f (fmtK d) k x.f0 x.f1 x.f2 5).bind fun t => if t.size + 1 ≤ 9223372036854775807 then some (t ++ (⟨#[42]⟩ : ByteArray)) else none) (fun k => by simp only [semigroupref04_FormatS.f]; rw [if_neg h1, if_neg h2, if_neg h3, if_neg h8, if_pos h7, hx, if_pos (by simp), rd_head]) (Ev.bind (part x hm 5) (by simp only [if_pos e1]; exact Ev.now _))) ?_
  rw [hx, bodyH_cons, strOf_app]; rfl
 rw [if_neg h7]
 by_cases h4 : e.f0 = 4
 ·rw [if_pos h4]
  exact Ev.congr (f := fun k => @semigroupref04_FormatS.j0 (fmtK d) k ⟨#[]⟩ ⟨#[124]⟩ 2 e.f0 e.f1 e.f2) (fun k => by simp only [semigroupref04_FormatS.f]; rw [if_neg h1, if_neg h2, if_neg h3, if_neg h8, if_neg h7, if_pos h4]) (j0 [124] _ rfl (by simp) 2)
 rw [if_neg h4]
 by_cases h6 : e.f0 = 6
 ·rw [if_pos h6]
  exact Ev.congr (f := fun k => @semigroupref04_FormatS.j0 (fmtK d) k ⟨#[]⟩ ⟨#[38]⟩ 3 e.f0 e.f1 e.f2) (fun k => by simp only [semigroupref04_FormatS.f]; rw [if_neg h1, if_neg h2, if_neg h3, if_neg h8, if_neg h7, if_neg h4, if_pos h6]) (j0 [38] _ rfl (by simp) 3)
 rw [if_neg h6]
 exact Ev.congr (f := fun k => @semigroupref04_FormatS.j0 (fmtK d) k ⟨#[]⟩ ⟨#[]⟩ 4 e.f0 e.f1 e.f2) (fun k => by simp only [semigroupref04_FormatS.f]; rw [if_neg h1, if_neg h2, if_neg h3, if_neg h8, if_neg h7, if_neg h4, if_neg h6]) (j0 [] _ rfl (by simp) 4)
end Go.Proofs.Ytjofkebiacaciaa.T04
end
section
namespace Go.Proofs.Ytjofkebiacaciaa.Pure
open Go Go.RowKit Go.Proofs.Ytjofkebiacaciaa.PAll Go.Proofs.YtjofkebiacaciaaW.PrintWords Go.Proofs.YtjofkebiacaciaaW.PrintLast Go.Proofs.Ytjofkebiacaciaa.AllRead24 Go.Proofs.Ytjofkebiacaciaa.T04
set_option linter.all false
theorem ExprFormats (e : S24) (he : WF e) : ∃ k, @semigrouplaw04_ExprFormats.f (fmtK 41) k e.f0 e.f1 e.f2 = some true := by
 have aw : Ev (fun k => (semigrouplaw04_awake.f k).bind fun z => some z) true := Ev.bind (f := fun _ z => some z) awake_ev (Ev.now _)
 refine Ev.rounds (g := fun k => @semigrouplaw04_ExprFormats.f (fmtK 41) k e.f0 e.f1 e.f2) ?_
 refine Ev.congr (fun k => by simp only [semigrouplaw04_ExprFormats.f]; rfl) ?_
 refine Ev.bind (format_prog e he) (Ev.bind (valid_ref e he) ?_)
 by_cases hg : Vld e
 ·rw [decide_eq_true hg, if_pos hg]
  simp only [if_true]
  refine Ev.bind (format_ref e he hg.2 hg.1.1 41 (by have := hg.1.2; omega)) ?_
  simp only [if_true]
  exact aw
 ·rw [decide_eq_false hg, if_neg hg]
  simp only [if_neg (show ¬ (false = true) by decide)]
  have : (⟨#[]⟩ : ByteArray).toList = [] := by decide +kernel
  simp only [this, if_true]
  exact aw
end Go.Proofs.Ytjofkebiacaciaa.Pure
end
