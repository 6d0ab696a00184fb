/- The functions that the laws of this seat reach, a proof for each that the Go code comes to them, and the plain laws; merged. Conditions: none beside those of the given statements. -/
import Derived.Test.YtjofkebiacaciaaMc14
import Derived.Test.YtjofkebiacaciaaMc16
import Derived.Test.YtjofkebiacaciaaMExprRoundTrips1
section
namespace Go.Proofs.Ytjofkebiacaciaa.PAll
open Go.RowKit Go.Proofs.YtjofkebiacaciaaW.PrintWords Go.Proofs.YtjofkebiacaciaaW.PrintLast Go.Proofs.YtjofkebiacaciaaW.PrintMore
attribute [local go_sem] max2_int min2_int max_two min_two max_three min_three max_four min_four
set_option linter.unusedVariables false
set_option linter.unusedSimpArgs false
mutual
def simplify_Nullable.j0 : Nat → Int → Bool → Int → Int → List (S24) → Option (Bool)
 | 0, _, _, _, _, _ => none
 | k + 1, x8, x9, x394000, x394001, x394002 => if x9 = true then (some true) else (if x8 = 4 then (simplify_Nullable.l0 k x394002 (x394002.length : Int) 0) else (if x8 = 5 then (simplify_Nullable.j2 k x8 (x8 == 5) x394000 x394001 x394002) else (simplify_Nullable.j2 k x8 (x8 == 6) x394000 x394001 x394002)))
def simplify_Nullable.l0 : Nat → List (S24) → Int → Int → Option (Bool)
 | 0, _, _, _ => none
 | k + 1, x15, x16, x17 => if x17 < x16 then (if 0 ≤ x17 then (if x17 < (x15.length : Int) then ((simplify_Nullable.f k ((rd_T24 x15 x17).f0) ((rd_T24 x15 x17).f1) ((rd_T24 x15 x17).f2)).bind fun t396 => (if t396 = true then (some true) else (simplify_Nullable.l0 k x15 x16 (wrap64 (x17 + 1))))) else (none)) else (none)) else (some false)
def simplify_Nullable.j2 : Nat → Int → Bool → Int → Int → List (S24) → Option (Bool)
 | 0, _, _, _, _, _ => none
 | k + 1, x8, x24, x394000, x394001, x394002 => if x24 = true then (simplify_Nullable.l1 k x394002 (x394002.length : Int) 0) else (if x8 = 8 then (if 0 < (x394002.length : Int) then ((simplify_Nullable.f k ((rd_T24 x394002 0).f0) ((rd_T24 x394002 0).f1) ((rd_T24 x394002 0).f2)).bind fun t401 => (some (!t401))) else (none)) else (some false))
def simplify_Nullable.l1 : Nat → List (S24) → Int → Int → Option (Bool)
 | 0, _, _, _ => none
 | k + 1, x28, x29, x30 => if x30 < x29 then (if 0 ≤ x30 then (if x30 < (x28.length : Int) then ((simplify_Nullable.f k ((rd_T24 x28 x30).f0) ((rd_T24 x28 x30).f1) ((rd_T24 x28 x30).f2)).bind fun t399 => (if t399 = true then (simplify_Nullable.l1 k x28 x29 (wrap64 (x30 + 1))) else (some false))) else (none)) else (none)) else (some true)
def simplify_Nullable.f : Nat → Int → Int → List (S24) → Option (Bool)
 | 0, _, _, _ => none
 | k + 1, a0_0, a0_1, l0_2 => if a0_0 = 2 then (simplify_Nullable.j0 k a0_0 (a0_0 == 2) a0_0 a0_1 l0_2) else (simplify_Nullable.j0 k a0_0 (a0_0 == 7) a0_0 a0_1 l0_2)
end
theorem simplify_Nullable.mono_l : ∀ k, (∀ y0 y1 y2, LeO (simplify_Nullable.f k y0 y1 y2) (simplify_Nullable.f (k + 1) y0 y1 y2)) ∧ (∀ y0 y1 y2 y3 y4, LeO (simplify_Nullable.j0 k y0 y1 y2 y3 y4) (simplify_Nullable.j0 (k + 1) y0 y1 y2 y3 y4)) ∧ (∀ y0 y1 y2, LeO (simplify_Nullable.l0 k y0 y1 y2) (simplify_Nullable.l0 (k + 1) y0 y1 y2)) ∧ (∀ y0 y1 y2 y3 y4, LeO (simplify_Nullable.j2 k y0 y1 y2 y3 y4) (simplify_Nullable.j2 (k + 1) y0 y1 y2 y3 y4)) ∧ (∀ y0 y1 y2, LeO (simplify_Nullable.l1 k y0 y1 y2) (simplify_Nullable.l1 (k + 1) y0 y1 y2))
 | 0 => ⟨fun _ _ _ r h => by simp [simplify_Nullable.f] at h, fun _ _ _ _ _ r h => by simp [simplify_Nullable.j0] at h, fun _ _ _ r h => by simp [simplify_Nullable.l0] at h, fun _ _ _ _ _ r h => by simp [simplify_Nullable.j2] at h, fun _ _ _ r h => by simp [simplify_Nullable.l1] at h⟩
 | k + 1 => by
  obtain ⟨ih0, ih1, ih2, ih3, ih4⟩ := simplify_Nullable.mono_l k
  refine ⟨?_, ?_, ?_, ?_, ?_⟩
  ·intro y0 y1 y2
   unfold simplify_Nullable.f
   repeat' first
   | (with_reducible exact ih0 _ _ _)
   | (with_reducible exact ih1 _ _ _ _ _)
   | (with_reducible exact ih2 _ _ _)
   | (with_reducible exact ih3 _ _ _ _ _)
   | (with_reducible exact ih4 _ _ _)
   | (with_reducible exact LeO.refl _)
   | (with_reducible exact LeO.none _)
   | (with_reducible refine LeO.ite ?_ ?_)
   | (with_reducible refine LeO.bind ?_ (fun _ => ?_))
   | exact ih0 _ _ _
   | exact ih1 _ _ _ _ _
   | exact ih2 _ _ _
   | exact ih3 _ _ _ _ _
   | exact ih4 _ _ _
   | exact LeO.none _
   | refine LeO.ite ?_ ?_
   | refine LeO.bind ?_ (fun _ => ?_)
  ·intro y0 y1 y2 y3 y4
   unfold simplify_Nullable.j0
   repeat' first
   | (with_reducible exact ih0 _ _ _)
   | (with_reducible exact ih1 _ _ _ _ _)
   | (with_reducible exact ih2 _ _ _)
   | (with_reducible exact ih3 _ _ _ _ _)
   | (with_reducible exact ih4 _ _ _)
   | (with_reducible exact LeO.refl _)
   | (with_reducible exact LeO.none _)
   | (with_reducible refine LeO.ite ?_ ?_)
   | (with_reducible refine LeO.bind ?_ (fun _ => ?_))
   | exact ih0 _ _ _
   | exact ih1 _ _ _ _ _
   | exact ih2 _ _ _
   | exact ih3 _ _ _ _ _
   | exact ih4 _ _ _
   | exact LeO.none _
   | refine LeO.ite ?_ ?_
   | refine LeO.bind ?_ (fun _ => ?_)
  ·intro y0 y1 y2
   unfold simplify_Nullable.l0
   repeat' first
   | (with_reducible exact ih0 _ _ _)
   | (with_reducible exact ih1 _ _ _ _ _)
   | (with_reducible exact ih2 _ _ _)
   | (with_reducible exact ih3 _ _ _ _ _)
   | (with_reducible exact ih4 _ _ _)
   | (with_reducible exact LeO.refl _)
   | (with_reducible exact LeO.none _)
   | (with_reducible refine LeO.ite ?_ ?_)
   | (with_reducible refine LeO.bind ?_ (fun _ => ?_))
   | exact ih0 _ _ _
   | exact ih1 _ _ _ _ _
   | exact ih2 _ _ _
   | exact ih3 _ _ _ _ _
   | exact ih4 _ _ _
   | exact LeO.none _
   | refine LeO.ite ?_ ?_
   | refine LeO.bind ?_ (fun _ => ?_)
  ·intro y0 y1 y2 y3 y4
   unfold simplify_Nullable.j2
   repeat' first
   | (with_reducible exact ih0 _ _ _)
   | (with_reducible exact ih1 _ _ _ _ _)
   | (with_reducible exact ih2 _ _ _)
   | (with_reducible exact ih3 _ _ _ _ _)
   | (with_reducible exact ih4 _ _ _)
   | (with_reducible exact LeO.refl _)
   | (with_reducible exact LeO.none _)
   | (with_reducible refine LeO.ite ?_ ?_)
   | (with_reducible refine LeO.bind ?_ (fun _ => ?_))
   | exact ih0 _ _ _
   | exact ih1 _ _ _ _ _
   | exact ih2 _ _ _
   | exact ih3 _ _ _ _ _
   | exact ih4 _ _ _
   | exact LeO.none _
   | refine LeO.ite ?_ ?_
   | refine LeO.bind ?_ (fun _ => ?_)
  ·intro y0 y1 y2
   unfold simplify_Nullable.l1
   repeat' first
   | (with_reducible exact ih0 _ _ _)
   | (with_reducible exact ih1 _ _ _ _ _)
   | (with_reducible exact ih2 _ _ _)
   | (with_reducible exact ih3 _ _ _ _ _)
   | (with_reducible exact ih4 _ _ _)
   | (with_reducible exact LeO.refl _)
   | (with_reducible exact LeO.none _)
   | (with_reducible refine LeO.ite ?_ ?_)
   | (with_reducible refine LeO.bind ?_ (fun _ => ?_))
   | exact ih0 _ _ _
   | exact ih1 _ _ _ _ _
   | exact ih2 _ _ _
   | exact ih3 _ _ _ _ _
   | exact ih4 _ _ _
   | exact LeO.none _
   | refine LeO.ite ?_ ?_
   | refine LeO.bind ?_ (fun _ => ?_)
theorem simplify_Nullable.mono : ∀ a0 a1 a2 k, LeO (simplify_Nullable.f k a0 a1 a2) (simplify_Nullable.f (k + 1) a0 a1 a2) := by
 intro a0 a1 a2 k
 obtain ⟨ih0, ih1, ih2, ih3, ih4⟩ := simplify_Nullable.mono_l k
 exact ih0 a0 a1 a2
set_option maxHeartbeats 8000000 in
set_option maxRecDepth 100000 in
theorem simplify_Nullable.calls (k : Nat) : ∀ (a0_0 : Int) (a0_1 : Int) (A0_2 : Option Addr) (c0_2 : Nat) (l0_2 : List (S24)) (r : Bool) (w : World) (hr0_2 : Kd.C k24 w A0_2 l0_2.length l0_2) (hc0_2 : l0_2.length ≤ c0_2) (h : simplify_Nullable.f k a0_0 a0_1 l0_2 = some r),
  Calls Try.prog 57 #[.agg #[.int .i64 a0_0, .int .i64 a0_1, .slice A0_2 l0_2.length c0_2]] w fun e w' => e = .returned (.bool r) ∧ Below w.heap.size w w' := by
 induction k using Nat.strongRecOn with
 | _ k ih =>
 intro a0_0 a0_1 A0_2 c0_2 l0_2 r w hr0_2 hc0_2 h
 cases k with
 | zero => exact absurd h (by simp [simplify_Nullable.f])
 | succ k =>
 simp only [simplify_Nullable.f] at h
 have hu24 := Try.underlying24
 have HR0_2 := Aside0.mk hr0_2
 have HC0_2 := Aside0.mk hc0_2
 clear hr0_2 hc0_2
 have HB := Aside0.mk (Below.refl w.heap.size w)
 have H : (if a0_0 = 2 then (simplify_Nullable.j0 k a0_0 (a0_0 == 2) a0_0 a0_1 l0_2) else (simplify_Nullable.j0 k a0_0 (a0_0 == 7) a0_0 a0_1 l0_2)) = some r := h
 clear h
 have HC2 := Aside0.mk H
 clear H
 go_enter Try.func57, Try.ntmps57
 go_upto_if 9 with (first | ((with_reducible refine gate_dst (N := 1) rfl ?_); refine box_event ?hg (N := 1) ?hd (cs := #[.int .i64 a0_0, .int .i64 a0_1, .slice A0_2 l0_2.length c0_2]) (t := 24) ?hr ?_; (case hd => rfl); (case hg => rfl); (case hr => first | (go_simp; done) | (go_simp; rfl)); intro gb393 hg w3 hbox hb; have n0_ := Aside0.mk (below_step (bB) hb); have n1_ := Aside0.mk (hbox); have n2_ := Aside0.mk ((by rw [hg]; exact (below_size (bB)) : w.heap.size ≤ gb393)); have n3_ := Aside0.mk ((by rw [hg]; exact (below_size (bB)) : w.heap.size ≤ gb393)); clear HB; have HB := n0_; have BK393 := n1_; have GW393 := n2_; have GE393 := n3_; clear n0_ n1_ n2_ n3_; clear hb hbox hg; have hcz4_0 : w3.cell? ⟨gb393, 0, none⟩ = some (.int .i64 a0_0) := (blk_cell BK393.out 0).trans rfl; have hcz4_1 : w3.cell? ⟨gb393, 1, none⟩ = some (.int .i64 a0_1) := (blk_cell BK393.out 1).trans rfl; have hcz4_2 : w3.cell? ⟨gb393, 2, none⟩ = some (.slice A0_2 l0_2.length c0_2) := (blk_cell BK393.out 2).trans rfl; have hfz4_0 := blk_frozen BK393.out 0; have hfz4_1 := blk_frozen BK393.out 1; have hfz4_2 := blk_frozen BK393.out 2))
 (try simp only [Act.put, List.setIfInBounds_toArray, List.set_cons_zero, List.set_cons_succ])
 go_cut [9] (fun v9 wc => ∃ (kq : Nat) (x9_1 : Bool), v9 = .bool x9_1 ∧ Aside0 (simplify_Nullable.j0 kq a0_0 x9_1 a0_0 a0_1 l0_2 = some r) ∧ Aside0 (kq ≤ k) ∧ Aside0 (wc.heap[gb393]? = some (.cells #[.int .i64 a0_0, .int .i64 a0_1, (.slice A0_2 l0_2.length c0_2)] 24 (0, 0))) ∧ Aside0 (Below w.heap.size w wc))
 case first =>
  have H := HC2.out
  clear HC2
  by_cases c5 : a0_0 = 2
  ·rw [if_pos c5] at H
   have c5b0 : (a0_0 == 2) = true := beq_iff_eq.mpr c5
   have c5b1 : (a0_0 != 2) = false := bne_eq_false_iff_eq.mpr c5
   clear c5
   (first | rw [c5b0] | (simp only [i64_w, i32_w]; rw [c5b0]) | skip)
   have H' := Aside0.mk H
   clear H
   go_wp2
   go_meet
   case rel => exact ⟨_, ((a0_0 == 2)), (by first | rfl | (simp; done) | (simp [*]; done)), H', ⟨by first | omega | exact Nat.le_refl _⟩, ⟨bK⟩, ⟨bB⟩⟩
  ·rw [if_neg c5] at H
   have c5b0 : (a0_0 == 2) = false := beq_eq_false_iff_ne.mpr c5
   have c5b1 : (a0_0 != 2) = true := bne_iff_ne.mpr c5
   (first | rw [c5b0] | (simp only [i64_w, i32_w]; rw [c5b0]) | skip)
   have H' := Aside0.mk H
   clear H
   go_wp2
   go_meet
   case rel => exact ⟨_, ((a0_0 == 7)), (by first | rfl | (simp; done) | (simp [*]; done)), H', ⟨by first | omega | exact Nat.le_refl _⟩, ⟨bK⟩, ⟨bB⟩⟩
 case rest =>
  clear HC2
  try clear p2
  try clear c5
  try clear c5b0
  try clear c5b1
  try clear hcz4_0
  try clear hcz4_1
  try clear hcz4_2
  try clear hfz4_0
  try clear hfz4_1
  try clear hfz4_2
  obtain ⟨kq, x9_1, rfl, HA, HJ1, BK393, HB⟩ := hcut
  cases kq with
  | zero => exact absurd HA.out (by simp [simplify_Nullable.j0])
  | succ kj1 =>
   have H := HA.out
   clear HA
   simp only [simplify_Nullable.j0] at H
   by_cases c6 : x9_1 = true
   ·subst c6
    have H1 : (some true) = some r := by rw [if_pos rfl] at H; exact H
    clear H
    have H := H1
    clear H1
    obtain rfl := Option.some.inj H
    go_wp2
    go_ret
    exact ⟨by first | rfl | (simp [errW_none, errW_some] <;> rfl) | (simp [*, errW_none, errW_some] <;> rfl), bB⟩
   ·replace c6 := Bool.eq_false_iff.mpr c6
    subst c6
    have H1 : (if a0_0 = 4 then (simplify_Nullable.l0 kj1 l0_2 (l0_2.length : Int) 0) else (if a0_0 = 5 then (simplify_Nullable.j2 kj1 a0_0 (a0_0 == 5) a0_0 a0_1 l0_2) else (simplify_Nullable.j2 kj1 a0_0 (a0_0 == 6) a0_0 a0_1 l0_2))) = some r := by rw [if_neg (show ¬ (false = true) by decide)] at H; exact H
    clear H
    have H := H1
    clear H1
    by_cases c7 : a0_0 = 4
    ·rw [if_pos c7] at H
     have c7b0 : (a0_0 == 4) = true := beq_iff_eq.mpr c7
     have c7b1 : (a0_0 != 4) = false := bne_eq_false_iff_eq.mpr c7
     clear c7
     have H' := Aside0.mk H
     clear H
     have hcz8_0 : wc.cell? ⟨gb393, 0, none⟩ = some (.int .i64 a0_0) := (blk_cell BK393.out 0).trans rfl
     have hcz8_1 : wc.cell? ⟨gb393, 1, none⟩ = some (.int .i64 a0_1) := (blk_cell BK393.out 1).trans rfl
     have hcz8_2 : wc.cell? ⟨gb393, 2, none⟩ = some (.slice A0_2 l0_2.length c0_2) := (blk_cell BK393.out 2).trans rfl
     have hfz8_0 := blk_frozen BK393.out 0
     have hfz8_1 := blk_frozen BK393.out 1
     have hfz8_2 := blk_frozen BK393.out 2
     go_wp2
     go_loopg [17] kj1 (fun kq v17 w' => ∃ (x17_2 : Int), v17 = .int .i64 x17_2 ∧ Aside0 (simplify_Nullable.l0 kq l0_2 (l0_2.length : Int) x17_2 = some r) ∧ Aside0 (kq ≤ kj1) ∧ Aside0 (w'.heap[gb393]? = some (.cells #[.int .i64 a0_0, .int .i64 a0_1, (.slice A0_2 l0_2.length c0_2)] 24 (0, 0))) ∧ Aside0 (Below w.heap.size w w'))
     case atStart => exact ⟨(0), (by first | rfl | (simp; done) | (simp [*]; done)), H', ⟨Nat.le_refl _⟩, ⟨bK⟩, ⟨bB⟩⟩
     case round =>
      clear H'
      try clear p2
      try clear c5
      try clear c5b0
      try clear c5b1
      try clear c6
      try clear c7
      try clear c7b0
      try clear c7b1
      try clear hcz4_0
      try clear hcz4_1
      try clear hcz4_2
      try clear hcz8_0
      try clear hcz8_1
      try clear hcz8_2
      try clear hfz4_0
      try clear hfz4_1
      try clear hfz4_2
      try clear hfz8_0
      try clear hfz8_1
      try clear hfz8_2
      try clear p2
      obtain ⟨x17_2, rfl, HA, HK2, BK393, HB⟩ := hrel
      cases gk with
      | zero => exact absurd HA.out (by simp [simplify_Nullable.l0])
      | succ k2 =>
       have H := HA.out
       clear HA
       simp only [simplify_Nullable.l0] at H
       by_cases c9 : x17_2 < (l0_2.length : Int)
       ·rw [if_pos c9] at H
        have c9b0 : decide (x17_2 < (l0_2.length : Int)) = true := decide_eq_true c9
        clear c9
        by_cases c10 : 0 ≤ x17_2
        ·rw [if_pos c10] at H
         have c10b0 : decide (0 ≤ x17_2) = true := decide_eq_true c10
         clear c10
         by_cases c11 : x17_2 < (l0_2.length : Int)
         ·rw [if_pos c11] at H
          have c11b0 : decide (x17_2 < (l0_2.length : Int)) = true := decide_eq_true c11
          clear c11
          replace H := Option.bind_eq_some_iff.mp H
          obtain ⟨t396, A120, H⟩ := H
          replace H : (if t396 = true then (some true) else (simplify_Nullable.l0 k2 l0_2 (l0_2.length : Int) (wrap64 (x17_2 + 1)))) = some r := H
          have A12 := Aside0.mk A120
          clear A120
          by_cases c13 : t396 = true
          ·subst c13
           have H1 : (some true) = some r := by rw [if_pos rfl] at H; exact H
           clear H
           have H := H1
           clear H1
           obtain rfl := Option.some.inj H
           have p394 : 0 ≤ (x17_2 : Int) := of_decide_eq_true (by first | (with_reducible assumption) | assumption)
           have q394 : x17_2 < (l0_2.length : Int) := of_decide_eq_true (by first | (with_reducible assumption) | assumption)
           obtain ⟨ad394, A394_2, c394_2, e394, hx394_0, hx394_1, hx394_2, hl394_2, hi394_2⟩ := at_T24 HR0_2.out x17_2 p394 q394
           cases e394
           replace hx394_0 := (HB.out.cell (World.block_lt_of_cell? w _ hx394_0)).trans hx394_0
           replace hx394_1 := (HB.out.cell (World.block_lt_of_cell? w _ hx394_1)).trans hx394_1
           replace hx394_2 := (HB.out.cell (World.block_lt_of_cell? w _ hx394_2)).trans hx394_2
           have HR394_2 := Aside0.mk hi394_2
           have HC394_2 := Aside0.mk hl394_2
           clear hi394_2 hl394_2
           replace p394 := eq_true p394
           replace q394 := eq_true q394
           go_wp2_with (first | ((with_reducible refine gate_dst (N := 4) rfl ?_); refine box_event ?hg (N := 4) ?hd (cs := #[.int .i64 0, .int .i64 0, .slice none 0 0]) (t := 24) ?hr ?_; (case hd => rfl); (case hg => rfl); (case hr => first | (go_simp; done) | (go_simp; rfl)); intro gb395 hg w14 hbox hb; have n0_ := Aside0.mk (blk_below (g := gb393) (o := .cells #[.int .i64 a0_0, .int .i64 a0_1, .slice (some ad394) l0_2.length c0_2] 24 (0, 0)) (bK) hb); have n1_ := Aside0.mk (below_step (bB) hb); have n2_ := Aside0.mk (hbox); have n3_ := Aside0.mk ((by rw [hg]; exact (below_size (bB)) : w.heap.size ≤ gb395)); have n4_ := Aside0.mk ((by rw [hg]; exact (below_size (bB)) : w.heap.size ≤ gb395)); have n5_ := Aside0.mk ((by rw [hg]; exact Nat.ne_of_lt (blk_lt (g := gb393) (o := .cells #[.int .i64 a0_0, .int .i64 a0_1, .slice (some ad394) l0_2.length c0_2] 24 (0, 0)) (bK)) : gb393 ≠ gb395)); have n6_ := Aside0.mk ((by rw [hg]; exact Nat.ne_of_gt (blk_lt (g := gb393) (o := .cells #[.int .i64 a0_0, .int .i64 a0_1, .slice (some ad394) l0_2.length c0_2] 24 (0, 0)) (bK)) : gb395 ≠ gb393)); clear BK393; clear HB; have BK393 := n0_; have HB := n1_; have BK395 := n2_; have GW395 := n3_; have GE395 := n4_; have NB393_395 := n5_; have NB395_393 := n6_; clear n0_ n1_ n2_ n3_ n4_ n5_ n6_; clear hb hbox hg; have hnb15 := NB395_393.out; have hnc15 := NB393_395.out; have hcz16_0 : w14.cell? ⟨gb395, 0, none⟩ = some (.int .i64 0) := (blk_cell BK395.out 0).trans rfl; have hcz16_1 : w14.cell? ⟨gb395, 1, none⟩ = some (.int .i64 0) := (blk_cell BK395.out 1).trans rfl; have hcz16_2 : w14.cell? ⟨gb395, 2, none⟩ = some (.slice none 0 0) := (blk_cell BK395.out 2).trans rfl; have hfz16_0 := blk_frozen BK395.out 0; have hfz16_1 := blk_frozen BK395.out 1; have hfz16_2 := blk_frozen BK395.out 2) | ((with_reducible refine gate_callee (f := 57) rfl ?_); refine goesL_ (some 22) rfl rfl Try.func57 (by kernel_rfl) rfl #[.agg #[.int .i64 ((rd_T24 l0_2 x17_2).f0), .int .i64 ((rd_T24 l0_2 x17_2).f1), .slice A394_2 ((rd_T24 l0_2 x17_2).f2).length c394_2]] rfl (by (try simp only [List.map_toArray, List.map_cons, List.map_nil]); first | done | rfl | (simp only [List.length_drop, List.length_take]; rfl) | (simp only [Int.ofNat_lt, Int.ofNat_le]; rfl)) ?_; (with_reducible refine (ih k2 (by have := HJ1.out; have := HK2.out; omega) ((rd_T24 l0_2 x17_2).f0) ((rd_T24 l0_2 x17_2).f1) _ _ ((rd_T24 l0_2 x17_2).f2) true _ ?side1 ?side2 A12.out).mono ?_); (case side1 => exact Kd.C_below HR394_2.out (bB)); (case side2 => exact HC394_2.out); rintro e w17 ⟨rfl, hb⟩; refine ⟨_, rfl, ?_⟩; have n0_ := Aside0.mk (blk_below (g := gb393) (o := .cells #[.int .i64 a0_0, .int .i64 a0_1, .slice (some ad394) l0_2.length c0_2] 24 (0, 0)) (by (with_reducible repeat (first | refine blk_drewN ?_ _ | refine blk_drew ?_ | refine blk_alloc ?_ _)); refine blk_far ?_ NB393_395.out _; (with_reducible repeat (first | refine blk_drewN ?_ _ | refine blk_drew ?_ | refine blk_alloc ?_ _)); refine blk_far ?_ NB393_395.out _; (with_reducible repeat (first | refine blk_drewN ?_ _ | refine blk_drew ?_ | refine blk_alloc ?_ _)); refine blk_far ?_ NB393_395.out _; (with_reducible repeat (first | refine blk_drewN ?_ _ | refine blk_drew ?_ | refine blk_alloc ?_ _)); exact BK393.out) hb); have n1_ := Aside0.mk (blk_below (g := gb395) (o := .cells #[.int .i64 ((rd_T24 l0_2 x17_2).f0), .int .i64 ((rd_T24 l0_2 x17_2).f1), .slice A394_2 ((rd_T24 l0_2 x17_2).f2).length c394_2] 24 (0, 0)) (by (with_reducible repeat (first | refine blk_drewN ?_ _ | refine blk_drew ?_ | refine blk_alloc ?_ _)); refine blk_put (cs := #[.int .i64 ((rd_T24 l0_2 x17_2).f0), .int .i64 ((rd_T24 l0_2 x17_2).f1), .slice none 0 0]) ?_ 2 _ rfl; (with_reducible repeat (first | refine blk_drewN ?_ _ | refine blk_drew ?_ | refine blk_alloc ?_ _)); refine blk_put (cs := #[.int .i64 ((rd_T24 l0_2 x17_2).f0), .int .i64 0, .slice none 0 0]) ?_ 1 _ rfl; (with_reducible repeat (first | refine blk_drewN ?_ _ | refine blk_drew ?_ | refine blk_alloc ?_ _)); refine blk_put (cs := #[.int .i64 0, .int .i64 0, .slice none 0 0]) ?_ 0 _ rfl; (with_reducible repeat (first | refine blk_drewN ?_ _ | refine blk_drew ?_ | refine blk_alloc ?_ _)); exact BK395.out) hb); have n2_ := Aside0.mk (below_step (bB) hb); clear BK393; clear BK395; clear HB; have BK393 := n0_; have BK395 := n1_; have HB := n2_; clear n0_ n1_ n2_; (try clear hb); (try clear hb2); (try clear hk); (try clear hi)))
           go_ret
           exact ⟨by first | rfl | (simp [errW_none, errW_some] <;> rfl) | (simp [*, errW_none, errW_some] <;> rfl), bB⟩
          ·replace c13 := Bool.eq_false_iff.mpr c13
           subst c13
           have H1 : (simplify_Nullable.l0 k2 l0_2 (l0_2.length : Int) (wrap64 (x17_2 + 1))) = some r := by rw [if_neg (show ¬ (false = true) by decide)] at H; exact H
           clear H
           have H := H1
           clear H1
           have H' := Aside0.mk H
           clear H
           have p394 : 0 ≤ (x17_2 : Int) := of_decide_eq_true (by first | (with_reducible assumption) | assumption)
           have q394 : x17_2 < (l0_2.length : Int) := of_decide_eq_true (by first | (with_reducible assumption) | assumption)
           obtain ⟨ad394, A394_2, c394_2, e394, hx394_0, hx394_1, hx394_2, hl394_2, hi394_2⟩ := at_T24 HR0_2.out x17_2 p394 q394
           cases e394
           replace hx394_0 := (HB.out.cell (World.block_lt_of_cell? w _ hx394_0)).trans hx394_0
           replace hx394_1 := (HB.out.cell (World.block_lt_of_cell? w _ hx394_1)).trans hx394_1
           replace hx394_2 := (HB.out.cell (World.block_lt_of_cell? w _ hx394_2)).trans hx394_2
           have HR394_2 := Aside0.mk hi394_2
           have HC394_2 := Aside0.mk hl394_2
           clear hi394_2 hl394_2
           replace p394 := eq_true p394
           replace q394 := eq_true q394
           go_wp2_with (first | ((with_reducible refine gate_dst (N := 4) rfl ?_); refine box_event ?hg (N := 4) ?hd (cs := #[.int .i64 0, .int .i64 0, .slice none 0 0]) (t := 24) ?hr ?_; (case hd => rfl); (case hg => rfl); (case hr => first | (go_simp; done) | (go_simp; rfl)); intro gb395 hg w18 hbox hb; have n0_ := Aside0.mk (blk_below (g := gb393) (o := .cells #[.int .i64 a0_0, .int .i64 a0_1, .slice (some ad394) l0_2.length c0_2] 24 (0, 0)) (bK) hb); have n1_ := Aside0.mk (below_step (bB) hb); have n2_ := Aside0.mk (hbox); have n3_ := Aside0.mk ((by rw [hg]; exact (below_size (bB)) : w.heap.size ≤ gb395)); have n4_ := Aside0.mk ((by rw [hg]; exact (below_size (bB)) : w.heap.size ≤ gb395)); have n5_ := Aside0.mk ((by rw [hg]; exact Nat.ne_of_lt (blk_lt (g := gb393) (o := .cells #[.int .i64 a0_0, .int .i64 a0_1, .slice (some ad394) l0_2.length c0_2] 24 (0, 0)) (bK)) : gb393 ≠ gb395)); have n6_ := Aside0.mk ((by rw [hg]; exact Nat.ne_of_gt (blk_lt (g := gb393) (o := .cells #[.int .i64 a0_0, .int .i64 a0_1, .slice (some ad394) l0_2.length c0_2] 24 (0, 0)) (bK)) : gb395 ≠ gb393)); clear BK393; clear HB; have BK393 := n0_; have HB := n1_; have BK395 := n2_; have GW395 := n3_; have GE395 := n4_; have NB393_395 := n5_; have NB395_393 := n6_; clear n0_ n1_ n2_ n3_ n4_ n5_ n6_; clear hb hbox hg; have hnb19 := NB395_393.out; have hnc19 := NB393_395.out; have hcz20_0 : w18.cell? ⟨gb395, 0, none⟩ = some (.int .i64 0) := (blk_cell BK395.out 0).trans rfl; have hcz20_1 : w18.cell? ⟨gb395, 1, none⟩ = some (.int .i64 0) := (blk_cell BK395.out 1).trans rfl; have hcz20_2 : w18.cell? ⟨gb395, 2, none⟩ = some (.slice none 0 0) := (blk_cell BK395.out 2).trans rfl; have hfz20_0 := blk_frozen BK395.out 0; have hfz20_1 := blk_frozen BK395.out 1; have hfz20_2 := blk_frozen BK395.out 2) | ((with_reducible refine gate_callee (f := 57) rfl ?_); refine goesL_ (some 22) rfl rfl Try.func57 (by kernel_rfl) rfl #[.agg #[.int .i64 ((rd_T24 l0_2 x17_2).f0), .int .i64 ((rd_T24 l0_2 x17_2).f1), .slice A394_2 ((rd_T24 l0_2 x17_2).f2).length c394_2]] rfl (by (try simp only [List.map_toArray, List.map_cons, List.map_nil]); first | done | rfl | (simp only [List.length_drop, List.length_take]; rfl) | (simp only [Int.ofNat_lt, Int.ofNat_le]; rfl)) ?_; (with_reducible refine (ih k2 (by have := HJ1.out; have := HK2.out; omega) ((rd_T24 l0_2 x17_2).f0) ((rd_T24 l0_2 x17_2).f1) _ _ ((rd_T24 l0_2 x17_2).f2) false _ ?side1 ?side2 A12.out).mono ?_); (case side1 => exact Kd.C_below HR394_2.out (bB)); (case side2 => exact HC394_2.out); rintro e w21 ⟨rfl, hb⟩; refine ⟨_, rfl, ?_⟩; have n0_ := Aside0.mk (blk_below (g := gb393) (o := .cells #[.int .i64 a0_0, .int .i64 a0_1, .slice (some ad394) l0_2.length c0_2] 24 (0, 0)) (by (with_reducible repeat (first | refine blk_drewN ?_ _ | refine blk_drew ?_ | refine blk_alloc ?_ _)); refine blk_far ?_ NB393_395.out _; (with_reducible repeat (first | refine blk_drewN ?_ _ | refine blk_drew ?_ | refine blk_alloc ?_ _)); refine blk_far ?_ NB393_395.out _; (with_reducible repeat (first | refine blk_drewN ?_ _ | refine blk_drew ?_ | refine blk_alloc ?_ _)); refine blk_far ?_ NB393_395.out _; (with_reducible repeat (first | refine blk_drewN ?_ _ | refine blk_drew ?_ | refine blk_alloc ?_ _)); exact BK393.out) hb); have n1_ := Aside0.mk (blk_below (g := gb395) (o := .cells #[.int .i64 ((rd_T24 l0_2 x17_2).f0), .int .i64 ((rd_T24 l0_2 x17_2).f1), .slice A394_2 ((rd_T24 l0_2 x17_2).f2).length c394_2] 24 (0, 0)) (by (with_reducible repeat (first | refine blk_drewN ?_ _ | refine blk_drew ?_ | refine blk_alloc ?_ _)); refine blk_put (cs := #[.int .i64 ((rd_T24 l0_2 x17_2).f0), .int .i64 ((rd_T24 l0_2 x17_2).f1), .slice none 0 0]) ?_ 2 _ rfl; (with_reducible repeat (first | refine blk_drewN ?_ _ | refine blk_drew ?_ | refine blk_alloc ?_ _)); refine blk_put (cs := #[.int .i64 ((rd_T24 l0_2 x17_2).f0), .int .i64 0, .slice none 0 0]) ?_ 1 _ rfl; (with_reducible repeat (first | refine blk_drewN ?_ _ | refine blk_drew ?_ | refine blk_alloc ?_ _)); refine blk_put (cs := #[.int .i64 0, .int .i64 0, .slice none 0 0]) ?_ 0 _ rfl; (with_reducible repeat (first | refine blk_drewN ?_ _ | refine blk_drew ?_ | refine blk_alloc ?_ _)); exact BK395.out) hb); have n2_ := Aside0.mk (below_step (bB) hb); clear BK393; clear BK395; clear HB; have BK393 := n0_; have BK395 := n1_; have HB := n2_; clear n0_ n1_ n2_; (try clear hb); (try clear hb2); (try clear hk); (try clear hi)))
           (first | go_roundg k2 | ((simp only [add_plain] at *); go_roundg k2))
           case measure => have := HJ1.out; have := HK2.out; omega
           case rel => exact ⟨(wrap64 (x17_2 + 1)), (by first | rfl | (simp; done) | (simp [*]; done)), H', ⟨by have := HJ1.out; have := HK2.out; omega⟩, ⟨bK⟩, ⟨bB⟩⟩
         ·rw [if_neg c11] at H
          exact absurd H (by simp)
        ·rw [if_neg c10] at H
         exact absurd H (by simp)
       ·rw [if_neg c9] at H
        have c9b0 : decide (x17_2 < (l0_2.length : Int)) = false := decide_eq_false c9
        clear c9
        obtain rfl := Option.some.inj H
        go_wp2
        go_ret
        exact ⟨by first | rfl | (simp [errW_none, errW_some] <;> rfl) | (simp [*, errW_none, errW_some] <;> rfl), bB⟩
    ·rw [if_neg c7] at H
     have c7b0 : (a0_0 == 4) = false := beq_eq_false_iff_ne.mpr c7
     have c7b1 : (a0_0 != 4) = true := bne_iff_ne.mpr c7
     have HC22 := Aside0.mk H
     clear H
     go_upto_if 24 with (fail)
     go_cut [24] (fun v24 wc => ∃ (kq : Nat) (x24_21 : Bool), v24 = .bool x24_21 ∧ Aside0 (simplify_Nullable.j2 kq a0_0 x24_21 a0_0 a0_1 l0_2 = some r) ∧ Aside0 (kq ≤ kj1) ∧ Aside0 (wc.heap[gb393]? = some (.cells #[.int .i64 a0_0, .int .i64 a0_1, (.slice A0_2 l0_2.length c0_2)] 24 (0, 0))) ∧ Aside0 (Below w.heap.size w wc))
     case first =>
      have H := HC22.out
      clear HC22
      by_cases c23 : a0_0 = 5
      ·rw [if_pos c23] at H
       have c23b0 : (a0_0 == 5) = true := beq_iff_eq.mpr c23
       have c23b1 : (a0_0 != 5) = false := bne_eq_false_iff_eq.mpr c23
       clear c23
       (first | rw [c23b0] | (simp only [i64_w, i32_w]; rw [c23b0]) | skip)
       have H' := Aside0.mk H
       clear H
       go_wp2
       go_meet
       case rel => exact ⟨_, ((a0_0 == 5)), (by first | rfl | (simp; done) | (simp [*]; done)), H', ⟨by have := HJ1.out; first | omega | exact Nat.le_refl _⟩, ⟨bK⟩, ⟨bB⟩⟩
      ·rw [if_neg c23] at H
       have c23b0 : (a0_0 == 5) = false := beq_eq_false_iff_ne.mpr c23
       have c23b1 : (a0_0 != 5) = true := bne_iff_ne.mpr c23
       (first | rw [c23b0] | (simp only [i64_w, i32_w]; rw [c23b0]) | skip)
       have H' := Aside0.mk H
       clear H
       go_wp2
       go_meet
       case rel => exact ⟨_, ((a0_0 == 6)), (by first | rfl | (simp; done) | (simp [*]; done)), H', ⟨by have := HJ1.out; first | omega | exact Nat.le_refl _⟩, ⟨bK⟩, ⟨bB⟩⟩
     case rest =>
      clear HC22
      try clear c1
      try clear c2
      try clear p2
      try clear c3
      try clear p3
      try clear q3
      try clear hx3
      try clear c5
      try clear c5b0
      try clear c5b1
      try clear c6
      try clear p6
      try clear c7
      try clear c7b0
      try clear c7b1
      try clear c9
      try clear c9b0
      try clear c10
      try clear c10b0
      try clear c11
      try clear c11b0
      try clear c13
      try clear c15
      try clear c19
      try clear c23
      try clear c23b0
      try clear c23b1
      try clear hcz16_0
      try clear hcz16_1
      try clear hcz16_2
      try clear hcz20_0
      try clear hcz20_1
      try clear hcz20_2
      try clear hcz4_0
      try clear hcz4_1
      try clear hcz4_2
      try clear hcz8_0
      try clear hcz8_1
      try clear hcz8_2
      try clear hfz16_0
      try clear hfz16_1
      try clear hfz16_2
      try clear hfz20_0
      try clear hfz20_1
      try clear hfz20_2
      try clear hfz4_0
      try clear hfz4_1
      try clear hfz4_2
      try clear hfz8_0
      try clear hfz8_1
      try clear hfz8_2
      try clear hx394_0
      try clear hx394_1
      try clear hx394_2
      try clear p2
      try clear p394
      try clear q394
      obtain ⟨kq, x24_21, rfl, HA, HJ21, BK393, HB⟩ := hcut
      cases kq with
      | zero => exact absurd HA.out (by simp [simplify_Nullable.j2])
      | succ kj21 =>
       have H := HA.out
       clear HA
       simp only [simplify_Nullable.j2] at H
       by_cases c24 : x24_21 = true
       ·subst c24
        have H1 : (simplify_Nullable.l1 kj21 l0_2 (l0_2.length : Int) 0) = some r := by rw [if_pos rfl] at H; exact H
        clear H
        have H := H1
        clear H1
        have H' := Aside0.mk H
        clear H
        have hcz25_0 : wc.cell? ⟨gb393, 0, none⟩ = some (.int .i64 a0_0) := (blk_cell BK393.out 0).trans rfl
        have hcz25_1 : wc.cell? ⟨gb393, 1, none⟩ = some (.int .i64 a0_1) := (blk_cell BK393.out 1).trans rfl
        have hcz25_2 : wc.cell? ⟨gb393, 2, none⟩ = some (.slice A0_2 l0_2.length c0_2) := (blk_cell BK393.out 2).trans rfl
        have hfz25_0 := blk_frozen BK393.out 0
        have hfz25_1 := blk_frozen BK393.out 1
        have hfz25_2 := blk_frozen BK393.out 2
        go_wp2
        go_loopg [30] kj21 (fun kq v30 w' => ∃ (x30_3 : Int), v30 = .int .i64 x30_3 ∧ Aside0 (simplify_Nullable.l1 kq l0_2 (l0_2.length : Int) x30_3 = some r) ∧ Aside0 (kq ≤ kj21) ∧ Aside0 (w'.heap[gb393]? = some (.cells #[.int .i64 a0_0, .int .i64 a0_1, (.slice A0_2 l0_2.length c0_2)] 24 (0, 0))) ∧ Aside0 (Below w.heap.size w w'))
        case atStart => exact ⟨(0), (by first | rfl | (simp; done) | (simp [*]; done)), H', ⟨Nat.le_refl _⟩, ⟨bK⟩, ⟨bB⟩⟩
        case round =>
         clear H'
         try clear c1
         try clear c2
         try clear p2
         try clear c3
         try clear p3
         try clear q3
         try clear hx3
         try clear c5
         try clear c5b0
         try clear c5b1
         try clear c6
         try clear p6
         try clear c7
         try clear c7b0
         try clear c7b1
         try clear c9
         try clear c9b0
         try clear c10
         try clear c10b0
         try clear c11
         try clear c11b0
         try clear c13
         try clear c15
         try clear c19
         try clear c23
         try clear c23b0
         try clear c23b1
         try clear c24
         try clear hcz16_0
         try clear hcz16_1
         try clear hcz16_2
         try clear hcz20_0
         try clear hcz20_1
         try clear hcz20_2
         try clear hcz25_0
         try clear hcz25_1
         try clear hcz25_2
         try clear hcz4_0
         try clear hcz4_1
         try clear hcz4_2
         try clear hcz8_0
         try clear hcz8_1
         try clear hcz8_2
         try clear hfz16_0
         try clear hfz16_1
         try clear hfz16_2
         try clear hfz20_0
         try clear hfz20_1
         try clear hfz20_2
         try clear hfz25_0
         try clear hfz25_1
         try clear hfz25_2
         try clear hfz4_0
         try clear hfz4_1
         try clear hfz4_2
         try clear hfz8_0
         try clear hfz8_1
         try clear hfz8_2
         try clear hx394_0
         try clear hx394_1
         try clear hx394_2
         try clear p2
         try clear p3
         try clear p394
         try clear p6
         try clear q3
         try clear q394
         obtain ⟨x30_3, rfl, HA, HK3, BK393, HB⟩ := hrel
         cases gk with
         | zero => exact absurd HA.out (by simp [simplify_Nullable.l1])
         | succ k3 =>
          have H := HA.out
          clear HA
          simp only [simplify_Nullable.l1] at H
          by_cases c26 : x30_3 < (l0_2.length : Int)
          ·rw [if_pos c26] at H
           have c26b0 : decide (x30_3 < (l0_2.length : Int)) = true := decide_eq_true c26
           clear c26
           by_cases c27 : 0 ≤ x30_3
           ·rw [if_pos c27] at H
            have c27b0 : decide (0 ≤ x30_3) = true := decide_eq_true c27
            clear c27
            by_cases c28 : x30_3 < (l0_2.length : Int)
            ·rw [if_pos c28] at H
             have c28b0 : decide (x30_3 < (l0_2.length : Int)) = true := decide_eq_true c28
             clear c28
             replace H := Option.bind_eq_some_iff.mp H
             obtain ⟨t399, A290, H⟩ := H
             replace H : (if t399 = true then (simplify_Nullable.l1 k3 l0_2 (l0_2.length : Int) (wrap64 (x30_3 + 1))) else (some false)) = some r := H
             have A29 := Aside0.mk A290
             clear A290
             by_cases c30 : t399 = true
             ·subst c30
              have H1 : (simplify_Nullable.l1 k3 l0_2 (l0_2.length : Int) (wrap64 (x30_3 + 1))) = some r := by rw [if_pos rfl] at H; exact H
              clear H
              have H := H1
              clear H1
              have H' := Aside0.mk H
              clear H
              have p397 : 0 ≤ (x30_3 : Int) := of_decide_eq_true (by first | (with_reducible assumption) | assumption)
              have q397 : x30_3 < (l0_2.length : Int) := of_decide_eq_true (by first | (with_reducible assumption) | assumption)
              obtain ⟨ad397, A397_2, c397_2, e397, hx397_0, hx397_1, hx397_2, hl397_2, hi397_2⟩ := at_T24 HR0_2.out x30_3 p397 q397
              cases e397
              replace hx397_0 := (HB.out.cell (World.block_lt_of_cell? w _ hx397_0)).trans hx397_0
              replace hx397_1 := (HB.out.cell (World.block_lt_of_cell? w _ hx397_1)).trans hx397_1
              replace hx397_2 := (HB.out.cell (World.block_lt_of_cell? w _ hx397_2)).trans hx397_2
              have HR397_2 := Aside0.mk hi397_2
              have HC397_2 := Aside0.mk hl397_2
              clear hi397_2 hl397_2
              replace p397 := eq_true p397
              replace q397 := eq_true q397
              go_wp2_with (first | ((with_reducible refine gate_dst (N := 6) rfl ?_); refine box_event ?hg (N := 6) ?hd (cs := #[.int .i64 0, .int .i64 0, .slice none 0 0]) (t := 24) ?hr ?_; (case hd => rfl); (case hg => rfl); (case hr => first | (go_simp; done) | (go_simp; rfl)); intro gb398 hg w31 hbox hb; have n0_ := Aside0.mk (blk_below (g := gb393) (o := .cells #[.int .i64 a0_0, .int .i64 a0_1, .slice (some ad397) l0_2.length c0_2] 24 (0, 0)) (bK) hb); have n1_ := Aside0.mk (below_step (bB) hb); have n2_ := Aside0.mk (hbox); have n3_ := Aside0.mk ((by rw [hg]; exact (below_size (bB)) : w.heap.size ≤ gb398)); have n4_ := Aside0.mk ((by rw [hg]; exact (below_size (bB)) : w.heap.size ≤ gb398)); have n5_ := Aside0.mk ((by rw [hg]; exact Nat.ne_of_lt (blk_lt (g := gb393) (o := .cells #[.int .i64 a0_0, .int .i64 a0_1, .slice (some ad397) l0_2.length c0_2] 24 (0, 0)) (bK)) : gb393 ≠ gb398)); have n6_ := Aside0.mk ((by rw [hg]; exact Nat.ne_of_gt (blk_lt (g := gb393) (o := .cells #[.int .i64 a0_0, .int .i64 a0_1, .slice (some ad397) l0_2.length c0_2] 24 (0, 0)) (bK)) : gb398 ≠ gb393)); clear BK393; clear HB; have BK393 := n0_; have HB := n1_; have BK398 := n2_; have GW398 := n3_; have GE398 := n4_; have NB393_398 := n5_; have NB398_393 := n6_; clear n0_ n1_ n2_ n3_ n4_ n5_ n6_; clear hb hbox hg; have hnb32 := NB398_393.out; have hnc32 := NB393_398.out; have hcz33_0 : w31.cell? ⟨gb398, 0, none⟩ = some (.int .i64 0) := (blk_cell BK398.out 0).trans rfl; have hcz33_1 : w31.cell? ⟨gb398, 1, none⟩ = some (.int .i64 0) := (blk_cell BK398.out 1).trans rfl; have hcz33_2 : w31.cell? ⟨gb398, 2, none⟩ = some (.slice none 0 0) := (blk_cell BK398.out 2).trans rfl; have hfz33_0 := blk_frozen BK398.out 0; have hfz33_1 := blk_frozen BK398.out 1; have hfz33_2 := blk_frozen BK398.out 2) | ((with_reducible refine gate_callee (f := 57) rfl ?_); refine goesL_ (some 35) rfl rfl Try.func57 (by kernel_rfl) rfl #[.agg #[.int .i64 ((rd_T24 l0_2 x30_3).f0), .int .i64 ((rd_T24 l0_2 x30_3).f1), .slice A397_2 ((rd_T24 l0_2 x30_3).f2).length c397_2]] rfl (by (try simp only [List.map_toArray, List.map_cons, List.map_nil]); first | done | rfl | (simp only [List.length_drop, List.length_take]; rfl) | (simp only [Int.ofNat_lt, Int.ofNat_le]; rfl)) ?_; (with_reducible refine (ih k3 (by have := HJ1.out; have := HJ21.out; have := HK3.out; omega) ((rd_T24 l0_2 x30_3).f0) ((rd_T24 l0_2 x30_3).f1) _ _ ((rd_T24 l0_2 x30_3).f2) true _ ?side1 ?side2 A29.out).mono ?_); (case side1 => exact Kd.C_below HR397_2.out (bB)); (case side2 => exact HC397_2.out); rintro e w34 ⟨rfl, hb⟩; refine ⟨_, rfl, ?_⟩; have n0_ := Aside0.mk (blk_below (g := gb393) (o := .cells #[.int .i64 a0_0, .int .i64 a0_1, .slice (some ad397) l0_2.length c0_2] 24 (0, 0)) (by (with_reducible repeat (first | refine blk_drewN ?_ _ | refine blk_drew ?_ | refine blk_alloc ?_ _)); refine blk_far ?_ NB393_398.out _; (with_reducible repeat (first | refine blk_drewN ?_ _ | refine blk_drew ?_ | refine blk_alloc ?_ _)); refine blk_far ?_ NB393_398.out _; (with_reducible repeat (first | refine blk_drewN ?_ _ | refine blk_drew ?_ | refine blk_alloc ?_ _)); refine blk_far ?_ NB393_398.out _; (with_reducible repeat (first | refine blk_drewN ?_ _ | refine blk_drew ?_ | refine blk_alloc ?_ _)); exact BK393.out) hb); have n1_ := Aside0.mk (blk_below (g := gb398) (o := .cells #[.int .i64 ((rd_T24 l0_2 x30_3).f0), .int .i64 ((rd_T24 l0_2 x30_3).f1), .slice A397_2 ((rd_T24 l0_2 x30_3).f2).length c397_2] 24 (0, 0)) (by (with_reducible repeat (first | refine blk_drewN ?_ _ | refine blk_drew ?_ | refine blk_alloc ?_ _)); refine blk_put (cs := #[.int .i64 ((rd_T24 l0_2 x30_3).f0), .int .i64 ((rd_T24 l0_2 x30_3).f1), .slice none 0 0]) ?_ 2 _ rfl; (with_reducible repeat (first | refine blk_drewN ?_ _ | refine blk_drew ?_ | refine blk_alloc ?_ _)); refine blk_put (cs := #[.int .i64 ((rd_T24 l0_2 x30_3).f0), .int .i64 0, .slice none 0 0]) ?_ 1 _ rfl; (with_reducible repeat (first | refine blk_drewN ?_ _ | refine blk_drew ?_ | refine blk_alloc ?_ _)); refine blk_put (cs := #[.int .i64 0, .int .i64 0, .slice none 0 0]) ?_ 0 _ rfl; (with_reducible repeat (first | refine blk_drewN ?_ _ | refine blk_drew ?_ | refine blk_alloc ?_ _)); exact BK398.out) hb); have n2_ := Aside0.mk (below_step (bB) hb); clear BK393; clear BK398; clear HB; have BK393 := n0_; have BK398 := n1_; have HB := n2_; clear n0_ n1_ n2_; (try clear hb); (try clear hb2); (try clear hk); (try clear hi)))
              (first | go_roundg k3 | ((simp only [add_plain] at *); go_roundg k3))
              case measure => have := HJ1.out; have := HJ21.out; have := HK3.out; omega
              case rel => exact ⟨(wrap64 (x30_3 + 1)), (by first | rfl | (simp; done) | (simp [*]; done)), H', ⟨by have := HJ1.out; have := HJ21.out; have := HK3.out; omega⟩, ⟨bK⟩, ⟨bB⟩⟩
             ·replace c30 := Bool.eq_false_iff.mpr c30
              subst c30
              have H1 : (some false) = some r := by rw [if_neg (show ¬ (false = true) by decide)] at H; exact H
              clear H
              have H := H1
              clear H1
              obtain rfl := Option.some.inj H
              have p397 : 0 ≤ (x30_3 : Int) := of_decide_eq_true (by first | (with_reducible assumption) | assumption)
              have q397 : x30_3 < (l0_2.length : Int) := of_decide_eq_true (by first | (with_reducible assumption) | assumption)
              obtain ⟨ad397, A397_2, c397_2, e397, hx397_0, hx397_1, hx397_2, hl397_2, hi397_2⟩ := at_T24 HR0_2.out x30_3 p397 q397
              cases e397
              replace hx397_0 := (HB.out.cell (World.block_lt_of_cell? w _ hx397_0)).trans hx397_0
              replace hx397_1 := (HB.out.cell (World.block_lt_of_cell? w _ hx397_1)).trans hx397_1
              replace hx397_2 := (HB.out.cell (World.block_lt_of_cell? w _ hx397_2)).trans hx397_2
              have HR397_2 := Aside0.mk hi397_2
              have HC397_2 := Aside0.mk hl397_2
              clear hi397_2 hl397_2
              replace p397 := eq_true p397
              replace q397 := eq_true q397
              go_wp2_with (first | ((with_reducible refine gate_dst (N := 6) rfl ?_); refine box_event ?hg (N := 6) ?hd (cs := #[.int .i64 0, .int .i64 0, .slice none 0 0]) (t := 24) ?hr ?_; (case hd => rfl); (case hg => rfl); (case hr => first | (go_simp; done) | (go_simp; rfl)); intro gb398 hg w35 hbox hb; have n0_ := Aside0.mk (blk_below (g := gb393) (o := .cells #[.int .i64 a0_0, .int .i64 a0_1, .slice (some ad397) l0_2.length c0_2] 24 (0, 0)) (bK) hb); have n1_ := Aside0.mk (below_step (bB) hb); have n2_ := Aside0.mk (hbox); have n3_ := Aside0.mk ((by rw [hg]; exact (below_size (bB)) : w.heap.size ≤ gb398)); have n4_ := Aside0.mk ((by rw [hg]; exact (below_size (bB)) : w.heap.size ≤ gb398)); have n5_ := Aside0.mk ((by rw [hg]; exact Nat.ne_of_lt (blk_lt (g := gb393) (o := .cells #[.int .i64 a0_0, .int .i64 a0_1, .slice (some ad397) l0_2.length c0_2] 24 (0, 0)) (bK)) : gb393 ≠ gb398)); have n6_ := Aside0.mk ((by rw [hg]; exact Nat.ne_of_gt (blk_lt (g := gb393) (o := .cells #[.int .i64 a0_0, .int .i64 a0_1, .slice (some ad397) l0_2.length c0_2] 24 (0, 0)) (bK)) : gb398 ≠ gb393)); clear BK393; clear HB; have BK393 := n0_; have HB := n1_; have BK398 := n2_; have GW398 := n3_; have GE398 := n4_; have NB393_398 := n5_; have NB398_393 := n6_; clear n0_ n1_ n2_ n3_ n4_ n5_ n6_; clear hb hbox hg; have hnb36 := NB398_393.out; have hnc36 := NB393_398.out; have hcz37_0 : w35.cell? ⟨gb398, 0, none⟩ = some (.int .i64 0) := (blk_cell BK398.out 0).trans rfl; have hcz37_1 : w35.cell? ⟨gb398, 1, none⟩ = some (.int .i64 0) := (blk_cell BK398.out 1).trans rfl; have hcz37_2 : w35.cell? ⟨gb398, 2, none⟩ = some (.slice none 0 0) := (blk_cell BK398.out 2).trans rfl; have hfz37_0 := blk_frozen BK398.out 0; have hfz37_1 := blk_frozen BK398.out 1; have hfz37_2 := blk_frozen BK398.out 2) | ((with_reducible refine gate_callee (f := 57) rfl ?_); refine goesL_ (some 35) rfl rfl Try.func57 (by kernel_rfl) rfl #[.agg #[.int .i64 ((rd_T24 l0_2 x30_3).f0), .int .i64 ((rd_T24 l0_2 x30_3).f1), .slice A397_2 ((rd_T24 l0_2 x30_3).f2).length c397_2]] rfl (by (try simp only [List.map_toArray, List.map_cons, List.map_nil]); first | done | rfl | (simp only [List.length_drop, List.length_take]; rfl) | (simp only [Int.ofNat_lt, Int.ofNat_le]; rfl)) ?_; (with_reducible refine (ih k3 (by have := HJ1.out; have := HJ21.out; have := HK3.out; omega) ((rd_T24 l0_2 x30_3).f0) ((rd_T24 l0_2 x30_3).f1) _ _ ((rd_T24 l0_2 x30_3).f2) false _ ?side1 ?side2 A29.out).mono ?_); (case side1 => exact Kd.C_below HR397_2.out (bB)); (case side2 => exact HC397_2.out); rintro e w38 ⟨rfl, hb⟩; refine ⟨_, rfl, ?_⟩; have n0_ := Aside0.mk (blk_below (g := gb393) (o := .cells #[.int .i64 a0_0, .int .i64 a0_1, .slice (some ad397) l0_2.length c0_2] 24 (0, 0)) (by (with_reducible repeat (first | refine blk_drewN ?_ _ | refine blk_drew ?_ | refine blk_alloc ?_ _)); refine blk_far ?_ NB393_398.out _; (with_reducible repeat (first | refine blk_drewN ?_ _ | refine blk_drew ?_ | refine blk_alloc ?_ _)); refine blk_far ?_ NB393_398.out _; (with_reducible repeat (first | refine blk_drewN ?_ _ | refine blk_drew ?_ | refine blk_alloc ?_ _)); refine blk_far ?_ NB393_398.out _; (with_reducible repeat (first | refine blk_drewN ?_ _ | refine blk_drew ?_ | refine blk_alloc ?_ _)); exact BK393.out) hb); have n1_ := Aside0.mk (blk_below (g := gb398) (o := .cells #[.int .i64 ((rd_T24 l0_2 x30_3).f0), .int .i64 ((rd_T24 l0_2 x30_3).f1), .slice A397_2 ((rd_T24 l0_2 x30_3).f2).length c397_2] 24 (0, 0)) (by (with_reducible repeat (first | refine blk_drewN ?_ _ | refine blk_drew ?_ | refine blk_alloc ?_ _)); refine blk_put (cs := #[.int .i64 ((rd_T24 l0_2 x30_3).f0), .int .i64 ((rd_T24 l0_2 x30_3).f1), .slice none 0 0]) ?_ 2 _ rfl; (with_reducible repeat (first | refine blk_drewN ?_ _ | refine blk_drew ?_ | refine blk_alloc ?_ _)); refine blk_put (cs := #[.int .i64 ((rd_T24 l0_2 x30_3).f0), .int .i64 0, .slice none 0 0]) ?_ 1 _ rfl; (with_reducible repeat (first | refine blk_drewN ?_ _ | refine blk_drew ?_ | refine blk_alloc ?_ _)); refine blk_put (cs := #[.int .i64 0, .int .i64 0, .slice none 0 0]) ?_ 0 _ rfl; (with_reducible repeat (first | refine blk_drewN ?_ _ | refine blk_drew ?_ | refine blk_alloc ?_ _)); exact BK398.out) hb); have n2_ := Aside0.mk (below_step (bB) hb); clear BK393; clear BK398; clear HB; have BK393 := n0_; have BK398 := n1_; have HB := n2_; clear n0_ n1_ n2_; (try clear hb); (try clear hb2); (try clear hk); (try clear hi)))
              go_ret
              exact ⟨by first | rfl | (simp [errW_none, errW_some] <;> rfl) | (simp [*, errW_none, errW_some] <;> rfl), bB⟩
            ·rw [if_neg c28] at H
             exact absurd H (by simp)
           ·rw [if_neg c27] at H
            exact absurd H (by simp)
          ·rw [if_neg c26] at H
           have c26b0 : decide (x30_3 < (l0_2.length : Int)) = false := decide_eq_false c26
           clear c26
           obtain rfl := Option.some.inj H
           go_wp2
           go_ret
           exact ⟨by first | rfl | (simp [errW_none, errW_some] <;> rfl) | (simp [*, errW_none, errW_some] <;> rfl), bB⟩
       ·replace c24 := Bool.eq_false_iff.mpr c24
        subst c24
        have H1 : (if a0_0 = 8 then (if 0 < (l0_2.length : Int) then ((simplify_Nullable.f kj21 ((rd_T24 l0_2 0).f0) ((rd_T24 l0_2 0).f1) ((rd_T24 l0_2 0).f2)).bind fun t401 => (some (!t401))) else (none)) else (some false)) = some r := by rw [if_neg (show ¬ (false = true) by decide)] at H; exact H
        clear H
        have H := H1
        clear H1
        by_cases c39 : a0_0 = 8
        ·rw [if_pos c39] at H
         have c39b0 : (a0_0 == 8) = true := beq_iff_eq.mpr c39
         have c39b1 : (a0_0 != 8) = false := bne_eq_false_iff_eq.mpr c39
         clear c39
         by_cases c40 : 0 < (l0_2.length : Int)
         ·rw [if_pos c40] at H
          have c40b0 : decide (0 < (l0_2.length : Int)) = true := decide_eq_true c40
          have c40b1 : decide (0 < l0_2.length) = true := decide_eq_true (by omega)
          clear c40
          replace H := Option.bind_eq_some_iff.mp H
          obtain ⟨t401, A410, H⟩ := H
          replace H : (some (!t401)) = some r := H
          have A41 := Aside0.mk A410
          clear A410
          obtain rfl := Option.some.inj H
          have hcz42_0 : wc.cell? ⟨gb393, 0, none⟩ = some (.int .i64 a0_0) := (blk_cell BK393.out 0).trans rfl
          have hcz42_1 : wc.cell? ⟨gb393, 1, none⟩ = some (.int .i64 a0_1) := (blk_cell BK393.out 1).trans rfl
          have hcz42_2 : wc.cell? ⟨gb393, 2, none⟩ = some (.slice A0_2 l0_2.length c0_2) := (blk_cell BK393.out 2).trans rfl
          have hfz42_0 := blk_frozen BK393.out 0
          have hfz42_1 := blk_frozen BK393.out 1
          have hfz42_2 := blk_frozen BK393.out 2
          have p400 : 0 ≤ (0 : Int) := (by omega)
          have q400 : 0 < (l0_2.length : Int) := of_decide_eq_true (by first | (with_reducible assumption) | assumption)
          obtain ⟨ad400, A400_2, c400_2, e400, hx400_0, hx400_1, hx400_2, hl400_2, hi400_2⟩ := at_T24 HR0_2.out 0 p400 q400
          cases e400
          have qi400 : (0 < l0_2.length) = True := eq_true (by omega)
          (try rw [show ((0 : Int)).toNat = 0 from rfl] at hx400_0)
          (try rw [show 0 * 3 = 0 from rfl] at hx400_0)
          (try rw [Addr.add_zero'] at hx400_0)
          (try rw [show ((0 : Int)).toNat = 0 from rfl] at hx400_1)
          (try rw [show 0 * 3 = 0 from rfl] at hx400_1)
          (try rw [Addr.add_zero'] at hx400_1)
          (try rw [show ((0 : Int)).toNat = 0 from rfl] at hx400_2)
          (try rw [show 0 * 3 = 0 from rfl] at hx400_2)
          (try rw [Addr.add_zero'] at hx400_2)
          replace hx400_0 := (HB.out.cell (World.block_lt_of_cell? w _ hx400_0)).trans hx400_0
          replace hx400_1 := (HB.out.cell (World.block_lt_of_cell? w _ hx400_1)).trans hx400_1
          replace hx400_2 := (HB.out.cell (World.block_lt_of_cell? w _ hx400_2)).trans hx400_2
          have HR400_2 := Aside0.mk hi400_2
          have HC400_2 := Aside0.mk hl400_2
          clear hi400_2 hl400_2
          replace p400 := eq_true p400
          replace q400 := eq_true q400
          go_wp2_with (first | ((with_reducible refine gate_callee (f := 57) rfl ?_); refine goesL_ (some 44) rfl rfl Try.func57 (by kernel_rfl) rfl #[.agg #[.int .i64 ((rd_T24 l0_2 0).f0), .int .i64 ((rd_T24 l0_2 0).f1), .slice A400_2 ((rd_T24 l0_2 0).f2).length c400_2]] rfl (by (try simp only [List.map_toArray, List.map_cons, List.map_nil]); first | done | rfl | (simp only [List.length_drop, List.length_take]; rfl) | (simp only [Int.ofNat_lt, Int.ofNat_le]; rfl)) ?_; (with_reducible refine (ih kj21 (by have := HJ1.out; have := HJ21.out; omega) ((rd_T24 l0_2 0).f0) ((rd_T24 l0_2 0).f1) _ _ ((rd_T24 l0_2 0).f2) t401 _ ?side1 ?side2 A41.out).mono ?_); (case side1 => repeat (first | exact (Kd.C_below HR400_2.out HB.out) | (with_reducible refine Kd.C_alloc ?_ _) | (with_reducible refine Kd.C_drewN ?_ _) | (with_reducible refine Kd.C_drew ?_))); (case side2 => exact HC400_2.out); rintro e w43 ⟨rfl, hb⟩; refine ⟨_, rfl, ?_⟩; have n0_ := Aside0.mk (blk_below (g := gb393) (o := .cells #[.int .i64 a0_0, .int .i64 a0_1, .slice (some ad400) l0_2.length c0_2] 24 (0, 0)) (bK) hb); have n1_ := Aside0.mk (below_step (bB) hb); clear BK393; clear HB; have BK393 := n0_; have HB := n1_; clear n0_ n1_; (try clear hb); (try clear hb2); (try clear hk); (try clear hi)))
          go_ret
          exact ⟨by first | rfl | (simp [errW_none, errW_some] <;> rfl) | (simp [*, errW_none, errW_some] <;> rfl), bB⟩
         ·rw [if_neg c40] at H
          exact absurd H (by simp)
        ·rw [if_neg c39] at H
         have c39b0 : (a0_0 == 8) = false := beq_eq_false_iff_ne.mpr c39
         have c39b1 : (a0_0 != 8) = true := bne_iff_ne.mpr c39
         obtain rfl := Option.some.inj H
         go_wp2
         go_ret
         exact ⟨by first | rfl | (simp [errW_none, errW_some] <;> rfl) | (simp [*, errW_none, errW_some] <;> rfl), bB⟩
end Go.Proofs.Ytjofkebiacaciaa.PAll
end
section
namespace Go.Proofs.Ytjofkebiacaciaa.PAll
open Go.RowKit Go.Proofs.YtjofkebiacaciaaW.PrintWords Go.Proofs.YtjofkebiacaciaaW.PrintLast Go.Proofs.YtjofkebiacaciaaW.PrintMore
attribute [local go_sem] max2_int min2_int max_two min_two max_three min_three max_four min_four
set_option linter.unusedVariables false
set_option linter.unusedSimpArgs false
def expr_Nullable.f (k : Nat) (a0_0 : Int) (a0_1 : Int) (l0_2 : List (S24)) : Option (Bool) := (expr_valid.f k a0_0 a0_1 l0_2).bind fun t403 => (if t403 = true then ((simplify_Nullable.f k a0_0 a0_1 l0_2).bind fun t404 => (some t404)) else (some false))
theorem expr_Nullable.mono : ∀ a0 a1 a2 k, LeO (expr_Nullable.f k a0 a1 a2) (expr_Nullable.f (k + 1) a0 a1 a2) := by
 intro a0 a1 a2 k
 unfold expr_Nullable.f
 repeat' first
   | (with_reducible exact expr_valid.mono _ _ _ _)
   | (with_reducible exact simplify_Nullable.mono _ _ _ _)
   | (with_reducible exact LeO.refl _)
   | (with_reducible exact LeO.none _)
   | (with_reducible refine LeO.ite ?_ ?_)
   | (with_reducible refine LeO.bind ?_ (fun _ => ?_))
   | exact expr_valid.mono _ _ _ _
   | exact simplify_Nullable.mono _ _ _ _
   | exact LeO.none _
   | refine LeO.ite ?_ ?_
   | refine LeO.bind ?_ (fun _ => ?_)
set_option maxHeartbeats 8000000 in
set_option maxRecDepth 100000 in
theorem expr_Nullable.calls (k : Nat) (a0_0 : Int) (a0_1 : Int) (A0_2 : Option Addr) (c0_2 : Nat) (l0_2 : List (S24)) (r : Bool) (w : World) (hr0_2 : Kd.C k24 w A0_2 l0_2.length l0_2) (hc0_2 : l0_2.length ≤ c0_2) (h : expr_Nullable.f k a0_0 a0_1 l0_2 = some r) :
  Calls Try.prog 29 #[.agg #[.int .i64 a0_0, .int .i64 a0_1, .slice A0_2 l0_2.length c0_2]] w fun e w' => e = .returned (.bool r) ∧ Below w.heap.size w w' := by
 have hu24 := Try.underlying24
 have HR0_2 := Aside0.mk hr0_2
 have HC0_2 := Aside0.mk hc0_2
 clear hr0_2 hc0_2
 have HB := Aside0.mk (Below.refl w.heap.size w)
 have H : ((expr_valid.f k a0_0 a0_1 l0_2).bind fun t403 => (if t403 = true then ((simplify_Nullable.f k a0_0 a0_1 l0_2).bind fun t404 => (some t404)) else (some false))) = some r := h
 clear h
 replace H := Option.bind_eq_some_iff.mp H
 obtain ⟨t403, A20, H⟩ := H
 replace H : (if t403 = true then ((simplify_Nullable.f k a0_0 a0_1 l0_2).bind fun t404 => (some t404)) else (some false)) = some r := H
 have A2 := Aside0.mk A20
 clear A20
 by_cases c3 : t403 = true
 ·subst c3
  have H1 : ((simplify_Nullable.f k a0_0 a0_1 l0_2).bind fun t404 => (some t404)) = some r := by rw [if_pos rfl] at H; exact H
  clear H
  have H := H1
  clear H1
  replace H := Option.bind_eq_some_iff.mp H
  obtain ⟨t404, A40, H⟩ := H
  replace H : (some t404) = some r := H
  have A4 := Aside0.mk A40
  clear A40
  obtain rfl := Option.some.inj H
  go_enter Try.func29, Try.ntmps29
  go_wp2_with (first | ((with_reducible refine gate_dst (N := 1) rfl ?_); refine box_event ?hg (N := 1) ?hd (cs := #[.int .i64 a0_0, .int .i64 a0_1, .slice A0_2 l0_2.length c0_2]) (t := 24) ?hr ?_; (case hd => rfl); (case hg => rfl); (case hr => first | (go_simp; done) | (go_simp; rfl)); intro gb402 hg w5 hbox hb; have n0_ := Aside0.mk (below_step (bB) hb); have n1_ := Aside0.mk (hbox); have n2_ := Aside0.mk ((by rw [hg]; exact (below_size (bB)) : w.heap.size ≤ gb402)); have n3_ := Aside0.mk ((by rw [hg]; exact (below_size (bB)) : w.heap.size ≤ gb402)); clear HB; have HB := n0_; have BK402 := n1_; have GW402 := n2_; have GE402 := n3_; clear n0_ n1_ n2_ n3_; clear hb hbox hg; have hcz6_0 : w5.cell? ⟨gb402, 0, none⟩ = some (.int .i64 a0_0) := (blk_cell BK402.out 0).trans rfl; have hcz6_1 : w5.cell? ⟨gb402, 1, none⟩ = some (.int .i64 a0_1) := (blk_cell BK402.out 1).trans rfl; have hcz6_2 : w5.cell? ⟨gb402, 2, none⟩ = some (.slice A0_2 l0_2.length c0_2) := (blk_cell BK402.out 2).trans rfl; have hfz6_0 := blk_frozen BK402.out 0; have hfz6_1 := blk_frozen BK402.out 1; have hfz6_2 := blk_frozen BK402.out 2) | ((with_reducible refine gate_callee (f := 46) rfl ?_); refine goesL_ (some 4) rfl rfl Try.func46 (by kernel_rfl) rfl #[.agg #[.int .i64 a0_0, .int .i64 a0_1, .slice A0_2 l0_2.length c0_2]] rfl (by (try simp only [List.map_toArray, List.map_cons, List.map_nil]); first | done | rfl | (simp only [List.length_drop, List.length_take]; rfl) | (simp only [Int.ofNat_lt, Int.ofNat_le]; rfl)) ?_; (with_reducible refine (expr_valid.calls k a0_0 a0_1 _ _ l0_2 true _ ?side1 ?side2 A2.out).mono ?_); (case side1 => repeat (first | exact (Kd.C_below HR0_2.out HB.out) | (with_reducible refine Kd.C_alloc ?_ _) | (with_reducible refine Kd.C_drewN ?_ _) | (with_reducible refine Kd.C_drew ?_))); (case side2 => exact HC0_2.out); rintro e w7 ⟨rfl, hb⟩; refine ⟨_, rfl, ?_⟩; have n0_ := Aside0.mk (blk_below (g := gb402) (o := .cells #[.int .i64 a0_0, .int .i64 a0_1, .slice A0_2 l0_2.length c0_2] 24 (0, 0)) (bK) hb); have n1_ := Aside0.mk (below_step (bB) hb); clear BK402; clear HB; have BK402 := n0_; have HB := n1_; clear n0_ n1_; (try clear hb); (try clear hb2); (try clear hk); (try clear hi); have hcz8_0 : w7.cell? ⟨gb402, 0, none⟩ = some (.int .i64 a0_0) := (blk_cell BK402.out 0).trans rfl; have hcz8_1 : w7.cell? ⟨gb402, 1, none⟩ = some (.int .i64 a0_1) := (blk_cell BK402.out 1).trans rfl; have hcz8_2 : w7.cell? ⟨gb402, 2, none⟩ = some (.slice A0_2 l0_2.length c0_2) := (blk_cell BK402.out 2).trans rfl; have hfz8_0 := blk_frozen BK402.out 0; have hfz8_1 := blk_frozen BK402.out 1; have hfz8_2 := blk_frozen BK402.out 2) | (go_at_call 57; (with_reducible refine (simplify_Nullable.calls k a0_0 a0_1 _ _ l0_2 t404 _ ?side1 ?side2 A4.out).mono ?_); (case side1 => repeat (first | exact (Kd.C_below HR0_2.out HB.out) | (with_reducible refine Kd.C_alloc ?_ _) | (with_reducible refine Kd.C_drewN ?_ _) | (with_reducible refine Kd.C_drew ?_))); (case side2 => exact HC0_2.out); rintro e w9 ⟨rfl, hb⟩; have n0_ := Aside0.mk (blk_below (g := gb402) (o := .cells #[.int .i64 a0_0, .int .i64 a0_1, .slice A0_2 l0_2.length c0_2] 24 (0, 0)) (bK) hb); have n1_ := Aside0.mk (below_step (bB) hb); clear BK402; clear HB; have BK402 := n0_; have HB := n1_; clear n0_ n1_; (try clear hb); (try clear hb2); (try clear hk); (try clear hi)))
  go_ret
  exact ⟨by first | rfl | (simp [errW_none, errW_some] <;> rfl) | (simp [*, errW_none, errW_some] <;> rfl), bB⟩
 ·replace c3 := Bool.eq_false_iff.mpr c3
  subst c3
  have H1 : (some false) = some r := by rw [if_neg (show ¬ (false = true) by decide)] at H; exact H
  clear H
  have H := H1
  clear H1
  obtain rfl := Option.some.inj H
  go_enter Try.func29, Try.ntmps29
  go_wp2_with (first | ((with_reducible refine gate_dst (N := 1) rfl ?_); refine box_event ?hg (N := 1) ?hd (cs := #[.int .i64 a0_0, .int .i64 a0_1, .slice A0_2 l0_2.length c0_2]) (t := 24) ?hr ?_; (case hd => rfl); (case hg => rfl); (case hr => first | (go_simp; done) | (go_simp; rfl)); intro gb402 hg w10 hbox hb; have n0_ := Aside0.mk (below_step (bB) hb); have n1_ := Aside0.mk (hbox); have n2_ := Aside0.mk ((by rw [hg]; exact (below_size (bB)) : w.heap.size ≤ gb402)); have n3_ := Aside0.mk ((by rw [hg]; exact (below_size (bB)) : w.heap.size ≤ gb402)); clear HB; have HB := n0_; have BK402 := n1_; have GW402 := n2_; have GE402 := n3_; clear n0_ n1_ n2_ n3_; clear hb hbox hg; have hcz11_0 : w10.cell? ⟨gb402, 0, none⟩ = some (.int .i64 a0_0) := (blk_cell BK402.out 0).trans rfl; have hcz11_1 : w10.cell? ⟨gb402, 1, none⟩ = some (.int .i64 a0_1) := (blk_cell BK402.out 1).trans rfl; have hcz11_2 : w10.cell? ⟨gb402, 2, none⟩ = some (.slice A0_2 l0_2.length c0_2) := (blk_cell BK402.out 2).trans rfl; have hfz11_0 := blk_frozen BK402.out 0; have hfz11_1 := blk_frozen BK402.out 1; have hfz11_2 := blk_frozen BK402.out 2) | ((with_reducible refine gate_callee (f := 46) rfl ?_); refine goesL_ (some 4) rfl rfl Try.func46 (by kernel_rfl) rfl #[.agg #[.int .i64 a0_0, .int .i64 a0_1, .slice A0_2 l0_2.length c0_2]] rfl (by (try simp only [List.map_toArray, List.map_cons, List.map_nil]); first | done | rfl | (simp only [List.length_drop, List.length_take]; rfl) | (simp only [Int.ofNat_lt, Int.ofNat_le]; rfl)) ?_; (with_reducible refine (expr_valid.calls k a0_0 a0_1 _ _ l0_2 false _ ?side1 ?side2 A2.out).mono ?_); (case side1 => repeat (first | exact (Kd.C_below HR0_2.out HB.out) | (with_reducible refine Kd.C_alloc ?_ _) | (with_reducible refine Kd.C_drewN ?_ _) | (with_reducible refine Kd.C_drew ?_))); (case side2 => exact HC0_2.out); rintro e w12 ⟨rfl, hb⟩; refine ⟨_, rfl, ?_⟩; have n0_ := Aside0.mk (blk_below (g := gb402) (o := .cells #[.int .i64 a0_0, .int .i64 a0_1, .slice A0_2 l0_2.length c0_2] 24 (0, 0)) (bK) hb); have n1_ := Aside0.mk (below_step (bB) hb); clear BK402; clear HB; have BK402 := n0_; have HB := n1_; clear n0_ n1_; (try clear hb); (try clear hb2); (try clear hk); (try clear hi)))
  go_ret
  exact ⟨by first | rfl | (simp [errW_none, errW_some] <;> rfl) | (simp [*, errW_none, errW_some] <;> rfl), bB⟩
end Go.Proofs.Ytjofkebiacaciaa.PAll
end
section
namespace Go.Proofs.Ytjofkebiacaciaa.PAll
open Go.RowKit Go.Proofs.YtjofkebiacaciaaW.PrintWords Go.Proofs.YtjofkebiacaciaaW.PrintLast Go.Proofs.YtjofkebiacaciaaW.PrintMore
attribute [local go_sem] max2_int min2_int max_two min_two max_three min_three max_four min_four
set_option linter.unusedVariables false
set_option linter.unusedSimpArgs false
def semigroupref04_Size.f (k : Nat) (a0_0 : Int) (a0_1 : Int) (l0_2 : List (S24)) : Option (Int) := (semigroupref04_measure.f k a0_0 a0_1 l0_2 400).bind fun bt406 => (some bt406.1)
theorem semigroupref04_Size.mono : ∀ a0 a1 a2 k, LeO (semigroupref04_Size.f k a0 a1 a2) (semigroupref04_Size.f (k + 1) a0 a1 a2) := by
 intro a0 a1 a2 k
 unfold semigroupref04_Size.f
 repeat' first
   | (with_reducible exact semigroupref04_measure.mono _ _ _ _ _)
   | (with_reducible exact LeO.refl _)
   | (with_reducible exact LeO.none _)
   | (with_reducible refine LeO.ite ?_ ?_)
   | (with_reducible refine LeO.bind ?_ (fun _ => ?_))
   | exact semigroupref04_measure.mono _ _ _ _ _
   | exact LeO.none _
   | refine LeO.ite ?_ ?_
   | refine LeO.bind ?_ (fun _ => ?_)
set_option maxHeartbeats 8000000 in
set_option maxRecDepth 100000 in
theorem semigroupref04_Size.calls (k : Nat) (a0_0 : Int) (a0_1 : Int) (A0_2 : Option Addr) (c0_2 : Nat) (l0_2 : List (S24)) (r : Int) (w : World) (hr0_2 : Kd.C k24 w A0_2 l0_2.length l0_2) (hc0_2 : l0_2.length ≤ c0_2) (h : semigroupref04_Size.f k a0_0 a0_1 l0_2 = some r) :
  Calls Try.prog 30 #[.agg #[.int .i64 a0_0, .int .i64 a0_1, .slice A0_2 l0_2.length c0_2]] w fun e w' => e = .returned (.int .i64 r) ∧ Below w.heap.size w w' := by
 have hu24 := Try.underlying24
 have HR0_2 := Aside0.mk hr0_2
 have HC0_2 := Aside0.mk hc0_2
 clear hr0_2 hc0_2
 have HB := Aside0.mk (Below.refl w.heap.size w)
 have H : ((semigroupref04_measure.f k a0_0 a0_1 l0_2 400).bind fun bt406 => (some bt406.1)) = some r := h
 clear h
 replace H := Option.bind_eq_some_iff.mp H
 obtain ⟨⟨t406, t407⟩, A20, H⟩ := H
 replace H : (some t406) = some r := H
 have A2 := Aside0.mk A20
 clear A20
 obtain rfl := Option.some.inj H
 go_enter Try.func30, Try.ntmps30
 go_wp2_with (first | ((with_reducible refine gate_dst (N := 1) rfl ?_); refine box_event ?hg (N := 1) ?hd (cs := #[.int .i64 a0_0, .int .i64 a0_1, .slice A0_2 l0_2.length c0_2]) (t := 24) ?hr ?_; (case hd => rfl); (case hg => rfl); (case hr => first | (go_simp; done) | (go_simp; rfl)); intro gb405 hg w3 hbox hb; have n0_ := Aside0.mk (below_step (bB) hb); have n1_ := Aside0.mk (hbox); have n2_ := Aside0.mk ((by rw [hg]; exact (below_size (bB)) : w.heap.size ≤ gb405)); have n3_ := Aside0.mk ((by rw [hg]; exact (below_size (bB)) : w.heap.size ≤ gb405)); clear HB; have HB := n0_; have BK405 := n1_; have GW405 := n2_; have GE405 := n3_; clear n0_ n1_ n2_ n3_; clear hb hbox hg; have hcz4_0 : w3.cell? ⟨gb405, 0, none⟩ = some (.int .i64 a0_0) := (blk_cell BK405.out 0).trans rfl; have hcz4_1 : w3.cell? ⟨gb405, 1, none⟩ = some (.int .i64 a0_1) := (blk_cell BK405.out 1).trans rfl; have hcz4_2 : w3.cell? ⟨gb405, 2, none⟩ = some (.slice A0_2 l0_2.length c0_2) := (blk_cell BK405.out 2).trans rfl; have hfz4_0 := blk_frozen BK405.out 0; have hfz4_1 := blk_frozen BK405.out 1; have hfz4_2 := blk_frozen BK405.out 2) | ((with_reducible refine gate_callee (f := 58) rfl ?_); refine goesL_ (some 7) rfl rfl Try.func58 (by kernel_rfl) rfl #[.agg #[.int .i64 a0_0, .int .i64 a0_1, .slice A0_2 l0_2.length c0_2], .int .i64 400] rfl (by (try simp only [List.map_toArray, List.map_cons, List.map_nil]); first | done | rfl | (simp only [List.length_drop, List.length_take]; rfl) | (simp only [Int.ofNat_lt, Int.ofNat_le]; rfl)) ?_; (with_reducible refine (semigroupref04_measure.calls k a0_0 a0_1 _ _ l0_2 400 t406 t407 _ ?side1 ?side2 A2.out).mono ?_); (case side1 => repeat (first | exact (Kd.C_below HR0_2.out HB.out) | (with_reducible refine Kd.C_alloc ?_ _) | (with_reducible refine Kd.C_drewN ?_ _) | (with_reducible refine Kd.C_drew ?_))); (case side2 => exact HC0_2.out); rintro e w5 ⟨rfl, hb⟩; refine ⟨_, rfl, ?_⟩; have n0_ := Aside0.mk (blk_below (g := gb405) (o := .cells #[.int .i64 a0_0, .int .i64 a0_1, .slice A0_2 l0_2.length c0_2] 24 (0, 0)) (bK) hb); have n1_ := Aside0.mk (below_step (bB) hb); clear BK405; clear HB; have BK405 := n0_; have HB := n1_; clear n0_ n1_; (try clear hb); (try clear hb2); (try clear hk); (try clear hi)))
 go_ret
 exact ⟨by first | rfl | (simp [errW_none, errW_some] <;> rfl) | (simp [*, errW_none, errW_some] <;> rfl), bB⟩
end Go.Proofs.Ytjofkebiacaciaa.PAll
end
section
namespace Go.Proofs.Ytjofkebiacaciaa.PAll
open Go.RowKit Go.Proofs.YtjofkebiacaciaaW.PrintWords Go.Proofs.YtjofkebiacaciaaW.PrintLast Go.Proofs.YtjofkebiacaciaaW.PrintMore
attribute [local go_sem] max2_int min2_int max_two min_two max_three min_three max_four min_four
set_option linter.unusedVariables false
set_option linter.unusedSimpArgs false
def semigroupref04_Depth.f (k : Nat) (a0_0 : Int) (a0_1 : Int) (l0_2 : List (S24)) : Option (Int) := (semigroupref04_measure.f k a0_0 a0_1 l0_2 400).bind fun bt409 => (some bt409.2)
theorem semigroupref04_Depth.mono : ∀ a0 a1 a2 k, LeO (semigroupref04_Depth.f k a0 a1 a2) (semigroupref04_Depth.f (k + 1) a0 a1 a2) := by
 intro a0 a1 a2 k
 unfold semigroupref04_Depth.f
 repeat' first
   | (with_reducible exact semigroupref04_measure.mono _ _ _ _ _)
   | (with_reducible exact LeO.refl _)
   | (with_reducible exact LeO.none _)
   | (with_reducible refine LeO.ite ?_ ?_)
   | (with_reducible refine LeO.bind ?_ (fun _ => ?_))
   | exact semigroupref04_measure.mono _ _ _ _ _
   | exact LeO.none _
   | refine LeO.ite ?_ ?_
   | refine LeO.bind ?_ (fun _ => ?_)
set_option maxHeartbeats 8000000 in
set_option maxRecDepth 100000 in
theorem semigroupref04_Depth.calls (k : Nat) (a0_0 : Int) (a0_1 : Int) (A0_2 : Option Addr) (c0_2 : Nat) (l0_2 : List (S24)) (r : Int) (w : World) (hr0_2 : Kd.C k24 w A0_2 l0_2.length l0_2) (hc0_2 : l0_2.length ≤ c0_2) (h : semigroupref04_Depth.f k a0_0 a0_1 l0_2 = some r) :
  Calls Try.prog 31 #[.agg #[.int .i64 a0_0, .int .i64 a0_1, .slice A0_2 l0_2.length c0_2]] w fun e w' => e = .returned (.int .i64 r) ∧ Below w.heap.size w w' := by
 have hu24 := Try.underlying24
 have HR0_2 := Aside0.mk hr0_2
 have HC0_2 := Aside0.mk hc0_2
 clear hr0_2 hc0_2
 have HB := Aside0.mk (Below.refl w.heap.size w)
 have H : ((semigroupref04_measure.f k a0_0 a0_1 l0_2 400).bind fun bt409 => (some bt409.2)) = some r := h
 clear h
 replace H := Option.bind_eq_some_iff.mp H
 obtain ⟨⟨t409, t410⟩, A20, H⟩ := H
 replace H : (some t410) = some r := H
 have A2 := Aside0.mk A20
 clear A20
 obtain rfl := Option.some.inj H
 go_enter Try.func31, Try.ntmps31
 go_wp2_with (first | ((with_reducible refine gate_dst (N := 1) rfl ?_); refine box_event ?hg (N := 1) ?hd (cs := #[.int .i64 a0_0, .int .i64 a0_1, .slice A0_2 l0_2.length c0_2]) (t := 24) ?hr ?_; (case hd => rfl); (case hg => rfl); (case hr => first | (go_simp; done) | (go_simp; rfl)); intro gb408 hg w3 hbox hb; have n0_ := Aside0.mk (below_step (bB) hb); have n1_ := Aside0.mk (hbox); have n2_ := Aside0.mk ((by rw [hg]; exact (below_size (bB)) : w.heap.size ≤ gb408)); have n3_ := Aside0.mk ((by rw [hg]; exact (below_size (bB)) : w.heap.size ≤ gb408)); clear HB; have HB := n0_; have BK408 := n1_; have GW408 := n2_; have GE408 := n3_; clear n0_ n1_ n2_ n3_; clear hb hbox hg; have hcz4_0 : w3.cell? ⟨gb408, 0, none⟩ = some (.int .i64 a0_0) := (blk_cell BK408.out 0).trans rfl; have hcz4_1 : w3.cell? ⟨gb408, 1, none⟩ = some (.int .i64 a0_1) := (blk_cell BK408.out 1).trans rfl; have hcz4_2 : w3.cell? ⟨gb408, 2, none⟩ = some (.slice A0_2 l0_2.length c0_2) := (blk_cell BK408.out 2).trans rfl; have hfz4_0 := blk_frozen BK408.out 0; have hfz4_1 := blk_frozen BK408.out 1; have hfz4_2 := blk_frozen BK408.out 2) | ((with_reducible refine gate_callee (f := 58) rfl ?_); refine goesL_ (some 7) rfl rfl Try.func58 (by kernel_rfl) rfl #[.agg #[.int .i64 a0_0, .int .i64 a0_1, .slice A0_2 l0_2.length c0_2], .int .i64 400] rfl (by (try simp only [List.map_toArray, List.map_cons, List.map_nil]); first | done | rfl | (simp only [List.length_drop, List.length_take]; rfl) | (simp only [Int.ofNat_lt, Int.ofNat_le]; rfl)) ?_; (with_reducible refine (semigroupref04_measure.calls k a0_0 a0_1 _ _ l0_2 400 t409 t410 _ ?side1 ?side2 A2.out).mono ?_); (case side1 => repeat (first | exact (Kd.C_below HR0_2.out HB.out) | (with_reducible refine Kd.C_alloc ?_ _) | (with_reducible refine Kd.C_drewN ?_ _) | (with_reducible refine Kd.C_drew ?_))); (case side2 => exact HC0_2.out); rintro e w5 ⟨rfl, hb⟩; refine ⟨_, rfl, ?_⟩; have n0_ := Aside0.mk (blk_below (g := gb408) (o := .cells #[.int .i64 a0_0, .int .i64 a0_1, .slice A0_2 l0_2.length c0_2] 24 (0, 0)) (bK) hb); have n1_ := Aside0.mk (below_step (bB) hb); clear BK408; clear HB; have BK408 := n0_; have HB := n1_; clear n0_ n1_; (try clear hb); (try clear hb2); (try clear hk); (try clear hi)))
 go_ret
 exact ⟨by first | rfl | (simp [errW_none, errW_some] <;> rfl) | (simp [*, errW_none, errW_some] <;> rfl), bB⟩
end Go.Proofs.Ytjofkebiacaciaa.PAll
end
section
namespace Go.Proofs.Ytjofkebiacaciaa.PAll
open Go.RowKit Go.Proofs.YtjofkebiacaciaaW.PrintWords Go.Proofs.YtjofkebiacaciaaW.PrintLast Go.Proofs.YtjofkebiacaciaaW.PrintMore
attribute [local go_sem] max2_int min2_int max_two min_two max_three min_three max_four min_four
set_option linter.unusedVariables false
set_option linter.unusedSimpArgs false
mutual
def semigroupref04_StarHeight.l0 : Nat → Int → List (S24) → Int → Int → Int → Int → List (S24) → Option (Int)
 | 0, _, _, _, _, _, _, _ => none
 | k + 1, x3, x7, x8, x9, x412000, x412001, x412002 => if x9 < x8 then (if 0 ≤ x9 then (if x9 < (x7.length : Int) then ((semigroupref04_StarHeight.f k ((rd_T24 x7 x9).f0) ((rd_T24 x7 x9).f1) ((rd_T24 x7 x9).f2)).bind fun t414 => (semigroupref04_StarHeight.l0 k (mx x3 t414) x7 x8 (wrap64 (x9 + 1)) x412000 x412001 x412002)) else (none)) else (none)) else (if x412000 = 7 then (some (wrap64 (x3 + 1))) else (some x3))
def semigroupref04_StarHeight.f : Nat → Int → Int → List (S24) → Option (Int)
 | 0, _, _, _ => none
 | k + 1, a0_0, a0_1, l0_2 => semigroupref04_StarHeight.l0 k 0 l0_2 (l0_2.length : Int) 0 a0_0 a0_1 l0_2
end
theorem semigroupref04_StarHeight.mono_l : ∀ k, (∀ y0 y1 y2, LeO (semigroupref04_StarHeight.f k y0 y1 y2) (semigroupref04_StarHeight.f (k + 1) y0 y1 y2)) ∧ (∀ y0 y1 y2 y3 y4 y5 y6, LeO (semigroupref04_StarHeight.l0 k y0 y1 y2 y3 y4 y5 y6) (semigroupref04_StarHeight.l0 (k + 1) y0 y1 y2 y3 y4 y5 y6))
 | 0 => ⟨fun _ _ _ r h => by simp [semigroupref04_StarHeight.f] at h, fun _ _ _ _ _ _ _ r h => by simp [semigroupref04_StarHeight.l0] at h⟩
 | k + 1 => by
  obtain ⟨ih0, ih1⟩ := semigroupref04_StarHeight.mono_l k
  refine ⟨?_, ?_⟩
  ·intro y0 y1 y2
   unfold semigroupref04_StarHeight.f
   repeat' first
   | (with_reducible exact ih0 _ _ _)
   | (with_reducible exact ih1 _ _ _ _ _ _ _)
   | (with_reducible exact LeO.refl _)
   | (with_reducible exact LeO.none _)
   | (with_reducible refine LeO.ite ?_ ?_)
   | (with_reducible refine LeO.bind ?_ (fun _ => ?_))
   | exact ih0 _ _ _
   | exact ih1 _ _ _ _ _ _ _
   | exact LeO.none _
   | refine LeO.ite ?_ ?_
   | refine LeO.bind ?_ (fun _ => ?_)
  ·intro y0 y1 y2 y3 y4 y5 y6
   unfold semigroupref04_StarHeight.l0
   repeat' first
   | (with_reducible exact ih0 _ _ _)
   | (with_reducible exact ih1 _ _ _ _ _ _ _)
   | (with_reducible exact LeO.refl _)
   | (with_reducible exact LeO.none _)
   | (with_reducible refine LeO.ite ?_ ?_)
   | (with_reducible refine LeO.bind ?_ (fun _ => ?_))
   | exact ih0 _ _ _
   | exact ih1 _ _ _ _ _ _ _
   | exact LeO.none _
   | refine LeO.ite ?_ ?_
   | refine LeO.bind ?_ (fun _ => ?_)
theorem semigroupref04_StarHeight.mono : ∀ a0 a1 a2 k, LeO (semigroupref04_StarHeight.f k a0 a1 a2) (semigroupref04_StarHeight.f (k + 1) a0 a1 a2) := by
 intro a0 a1 a2 k
 obtain ⟨ih0, ih1⟩ := semigroupref04_StarHeight.mono_l k
 exact ih0 a0 a1 a2
set_option maxHeartbeats 8000000 in
set_option maxRecDepth 100000 in
theorem semigroupref04_StarHeight.calls (k : Nat) : ∀ (a0_0 : Int) (a0_1 : Int) (A0_2 : Option Addr) (c0_2 : Nat) (l0_2 : List (S24)) (r : Int) (w : World) (hr0_2 : Kd.C k24 w A0_2 l0_2.length l0_2) (hc0_2 : l0_2.length ≤ c0_2) (h : semigroupref04_StarHeight.f k a0_0 a0_1 l0_2 = some r),
  Calls Try.prog 32 #[.agg #[.int .i64 a0_0, .int .i64 a0_1, .slice A0_2 l0_2.length c0_2]] w fun e w' => e = .returned (.int .i64 r) ∧ Below w.heap.size w w' := by
 induction k using Nat.strongRecOn with
 | _ k ih =>
 intro a0_0 a0_1 A0_2 c0_2 l0_2 r w hr0_2 hc0_2 h
 cases k with
 | zero => exact absurd h (by simp [semigroupref04_StarHeight.f])
 | succ k =>
 simp only [semigroupref04_StarHeight.f] at h
 have hu24 := Try.underlying24
 have HR0_2 := Aside0.mk hr0_2
 have HC0_2 := Aside0.mk hc0_2
 clear hr0_2 hc0_2
 have HB := Aside0.mk (Below.refl w.heap.size w)
 have H : (semigroupref04_StarHeight.l0 k 0 l0_2 (l0_2.length : Int) 0 a0_0 a0_1 l0_2) = some r := h
 clear h
 have H' := Aside0.mk H
 clear H
 go_enter Try.func32, Try.ntmps32
 go_wp2_with (first | ((with_reducible refine gate_dst (N := 1) rfl ?_); refine box_event ?hg (N := 1) ?hd (cs := #[.int .i64 a0_0, .int .i64 a0_1, .slice A0_2 l0_2.length c0_2]) (t := 24) ?hr ?_; (case hd => rfl); (case hg => rfl); (case hr => first | (go_simp; done) | (go_simp; rfl)); intro gb411 hg w2 hbox hb; have n0_ := Aside0.mk (below_step (bB) hb); have n1_ := Aside0.mk (hbox); have n2_ := Aside0.mk ((by rw [hg]; exact (below_size (bB)) : w.heap.size ≤ gb411)); have n3_ := Aside0.mk ((by rw [hg]; exact (below_size (bB)) : w.heap.size ≤ gb411)); clear HB; have HB := n0_; have BK411 := n1_; have GW411 := n2_; have GE411 := n3_; clear n0_ n1_ n2_ n3_; clear hb hbox hg; have hcz3_0 : w2.cell? ⟨gb411, 0, none⟩ = some (.int .i64 a0_0) := (blk_cell BK411.out 0).trans rfl; have hcz3_1 : w2.cell? ⟨gb411, 1, none⟩ = some (.int .i64 a0_1) := (blk_cell BK411.out 1).trans rfl; have hcz3_2 : w2.cell? ⟨gb411, 2, none⟩ = some (.slice A0_2 l0_2.length c0_2) := (blk_cell BK411.out 2).trans rfl; have hfz3_0 := blk_frozen BK411.out 0; have hfz3_1 := blk_frozen BK411.out 1; have hfz3_2 := blk_frozen BK411.out 2))
 go_loopg [3, 9] k (fun kq v3 v9 w' => ∃ (x3_1 : Int) (x9_1 : Int), v3 = .int .i64 x3_1 ∧ v9 = .int .i64 x9_1 ∧ Aside0 (semigroupref04_StarHeight.l0 kq x3_1 l0_2 (l0_2.length : Int) x9_1 a0_0 a0_1 l0_2 = some r) ∧ Aside0 (kq ≤ k) ∧ Aside0 (w'.heap[gb411]? = some (.cells #[.int .i64 a0_0, .int .i64 a0_1, (.slice A0_2 l0_2.length c0_2)] 24 (0, 0))) ∧ Aside0 (Below w.heap.size w w'))
 case atStart => exact ⟨(0), (0), (by first | rfl | (simp; done) | (simp [*]; done)), (by first | rfl | (simp; done) | (simp [*]; done)), H', ⟨Nat.le_refl _⟩, ⟨bK⟩, ⟨bB⟩⟩
 case round =>
  clear H'
  try clear p2
  try clear c3
  try clear hcz3_0
  try clear hcz3_1
  try clear hcz3_2
  try clear hfz3_0
  try clear hfz3_1
  try clear hfz3_2
  obtain ⟨x3_1, x9_1, rfl, rfl, HA, HK1, BK411, HB⟩ := hrel
  cases gk with
  | zero => exact absurd HA.out (by simp [semigroupref04_StarHeight.l0])
  | succ k1 =>
   have H := HA.out
   clear HA
   simp only [semigroupref04_StarHeight.l0] at H
   by_cases c4 : x9_1 < (l0_2.length : Int)
   ·rw [if_pos c4] at H
    have c4b0 : decide (x9_1 < (l0_2.length : Int)) = true := decide_eq_true c4
    clear c4
    by_cases c5 : 0 ≤ x9_1
    ·rw [if_pos c5] at H
     have c5b0 : decide (0 ≤ x9_1) = true := decide_eq_true c5
     clear c5
     by_cases c6 : x9_1 < (l0_2.length : Int)
     ·rw [if_pos c6] at H
      have c6b0 : decide (x9_1 < (l0_2.length : Int)) = true := decide_eq_true c6
      clear c6
      replace H := Option.bind_eq_some_iff.mp H
      obtain ⟨t414, A70, H⟩ := H
      replace H : (semigroupref04_StarHeight.l0 k1 (mx x3_1 t414) l0_2 (l0_2.length : Int) (wrap64 (x9_1 + 1)) a0_0 a0_1 l0_2) = some r := H
      have A7 := Aside0.mk A70
      clear A70
      obtain ⟨ji8, hji8⟩ : ∃ j_ : Int, (mx x3_1 t414) = j_ := ⟨_, rfl⟩
      replace H : (semigroupref04_StarHeight.l0 k1 ji8 l0_2 (l0_2.length : Int) (wrap64 (x9_1 + 1)) a0_0 a0_1 l0_2) = some r := by first | (rw [hji8] at H; exact H) | (simp only [hji8] at H ⊢; exact H)
      (try rw [hji8] at A7)
      have hji8_ : (if x3_1 < t414 then t414 else x3_1) = ji8 := hji8
      have H' := Aside0.mk H
      clear H
      have p412 : 0 ≤ (x9_1 : Int) := of_decide_eq_true (by first | (with_reducible assumption) | assumption)
      have q412 : x9_1 < (l0_2.length : Int) := of_decide_eq_true (by first | (with_reducible assumption) | assumption)
      obtain ⟨ad412, A412_2, c412_2, e412, hx412_0, hx412_1, hx412_2, hl412_2, hi412_2⟩ := at_T24 HR0_2.out x9_1 p412 q412
      cases e412
      replace hx412_0 := (HB.out.cell (World.block_lt_of_cell? w _ hx412_0)).trans hx412_0
      replace hx412_1 := (HB.out.cell (World.block_lt_of_cell? w _ hx412_1)).trans hx412_1
      replace hx412_2 := (HB.out.cell (World.block_lt_of_cell? w _ hx412_2)).trans hx412_2
      have HR412_2 := Aside0.mk hi412_2
      have HC412_2 := Aside0.mk hl412_2
      clear hi412_2 hl412_2
      replace p412 := eq_true p412
      replace q412 := eq_true q412
      go_wp2_with (first | ((with_reducible refine gate_dst (N := 5) rfl ?_); refine box_event ?hg (N := 5) ?hd (cs := #[.int .i64 0, .int .i64 0, .slice none 0 0]) (t := 24) ?hr ?_; (case hd => rfl); (case hg => rfl); (case hr => first | (go_simp; done) | (go_simp; rfl)); intro gb413 hg w9 hbox hb; have n0_ := Aside0.mk (blk_below (g := gb411) (o := .cells #[.int .i64 a0_0, .int .i64 a0_1, .slice (some ad412) l0_2.length c0_2] 24 (0, 0)) (bK) hb); have n1_ := Aside0.mk (below_step (bB) hb); have n2_ := Aside0.mk (hbox); have n3_ := Aside0.mk ((by rw [hg]; exact (below_size (bB)) : w.heap.size ≤ gb413)); have n4_ := Aside0.mk ((by rw [hg]; exact (below_size (bB)) : w.heap.size ≤ gb413)); have n5_ := Aside0.mk ((by rw [hg]; exact Nat.ne_of_lt (blk_lt (g := gb411) (o := .cells #[.int .i64 a0_0, .int .i64 a0_1, .slice (some ad412) l0_2.length c0_2] 24 (0, 0)) (bK)) : gb411 ≠ gb413)); have n6_ := Aside0.mk ((by rw [hg]; exact Nat.ne_of_gt (blk_lt (g := gb411) (o := .cells #[.int .i64 a0_0, .int .i64 a0_1, .slice (some ad412) l0_2.length c0_2] 24 (0, 0)) (bK)) : gb413 ≠ gb411)); clear BK411; clear HB; have BK411 := n0_; have HB := n1_; have BK413 := n2_; have GW413 := n3_; have GE413 := n4_; have NB411_413 := n5_; have NB413_411 := n6_; clear n0_ n1_ n2_ n3_ n4_ n5_ n6_; clear hb hbox hg; have hnb10 := NB413_411.out; have hnc10 := NB411_413.out; have hcz11_0 : w9.cell? ⟨gb413, 0, none⟩ = some (.int .i64 0) := (blk_cell BK413.out 0).trans rfl; have hcz11_1 : w9.cell? ⟨gb413, 1, none⟩ = some (.int .i64 0) := (blk_cell BK413.out 1).trans rfl; have hcz11_2 : w9.cell? ⟨gb413, 2, none⟩ = some (.slice none 0 0) := (blk_cell BK413.out 2).trans rfl; have hfz11_0 := blk_frozen BK413.out 0; have hfz11_1 := blk_frozen BK413.out 1; have hfz11_2 := blk_frozen BK413.out 2) | ((with_reducible refine gate_callee (f := 32) rfl ?_); refine goesL_ (some 15) rfl rfl Try.func32 (by kernel_rfl) rfl #[.agg #[.int .i64 ((rd_T24 l0_2 x9_1).f0), .int .i64 ((rd_T24 l0_2 x9_1).f1), .slice A412_2 ((rd_T24 l0_2 x9_1).f2).length c412_2]] rfl (by (try simp only [List.map_toArray, List.map_cons, List.map_nil]); first | done | rfl | (simp only [List.length_drop, List.length_take]; rfl) | (simp only [Int.ofNat_lt, Int.ofNat_le]; rfl)) ?_; (with_reducible refine (ih k1 (by have := HK1.out; omega) ((rd_T24 l0_2 x9_1).f0) ((rd_T24 l0_2 x9_1).f1) _ _ ((rd_T24 l0_2 x9_1).f2) t414 _ ?side1 ?side2 A7.out).mono ?_); (case side1 => exact Kd.C_below HR412_2.out (bB)); (case side2 => exact HC412_2.out); rintro e w12 ⟨rfl, hb⟩; refine ⟨_, rfl, ?_⟩; have n0_ := Aside0.mk (blk_below (g := gb411) (o := .cells #[.int .i64 a0_0, .int .i64 a0_1, .slice (some ad412) l0_2.length c0_2] 24 (0, 0)) (by (with_reducible repeat (first | refine blk_drewN ?_ _ | refine blk_drew ?_ | refine blk_alloc ?_ _)); refine blk_far ?_ NB411_413.out _; (with_reducible repeat (first | refine blk_drewN ?_ _ | refine blk_drew ?_ | refine blk_alloc ?_ _)); refine blk_far ?_ NB411_413.out _; (with_reducible repeat (first | refine blk_drewN ?_ _ | refine blk_drew ?_ | refine blk_alloc ?_ _)); refine blk_far ?_ NB411_413.out _; (with_reducible repeat (first | refine blk_drewN ?_ _ | refine blk_drew ?_ | refine blk_alloc ?_ _)); exact BK411.out) hb); have n1_ := Aside0.mk (blk_below (g := gb413) (o := .cells #[.int .i64 ((rd_T24 l0_2 x9_1).f0), .int .i64 ((rd_T24 l0_2 x9_1).f1), .slice A412_2 ((rd_T24 l0_2 x9_1).f2).length c412_2] 24 (0, 0)) (by (with_reducible repeat (first | refine blk_drewN ?_ _ | refine blk_drew ?_ | refine blk_alloc ?_ _)); refine blk_put (cs := #[.int .i64 ((rd_T24 l0_2 x9_1).f0), .int .i64 ((rd_T24 l0_2 x9_1).f1), .slice none 0 0]) ?_ 2 _ rfl; (with_reducible repeat (first | refine blk_drewN ?_ _ | refine blk_drew ?_ | refine blk_alloc ?_ _)); refine blk_put (cs := #[.int .i64 ((rd_T24 l0_2 x9_1).f0), .int .i64 0, .slice none 0 0]) ?_ 1 _ rfl; (with_reducible repeat (first | refine blk_drewN ?_ _ | refine blk_drew ?_ | refine blk_alloc ?_ _)); refine blk_put (cs := #[.int .i64 0, .int .i64 0, .slice none 0 0]) ?_ 0 _ rfl; (with_reducible repeat (first | refine blk_drewN ?_ _ | refine blk_drew ?_ | refine blk_alloc ?_ _)); exact BK413.out) hb); have n2_ := Aside0.mk (below_step (bB) hb); clear BK411; clear BK413; clear HB; have BK411 := n0_; have BK413 := n1_; have HB := n2_; clear n0_ n1_ n2_; (try clear hb); (try clear hb2); (try clear hk); (try clear hi)))
      (first | go_roundg k1 | ((simp only [add_plain] at *); go_roundg k1))
      case measure => have := HK1.out; omega
      case rel => exact ⟨(ji8), (wrap64 (x9_1 + 1)), (by first | rfl | (simp; done) | (simp only [← hji8] <;> (first | rfl | simp)) | (simp [*]; done)), (by first | rfl | (simp; done) | (simp [*]; done)), H', ⟨by have := HK1.out; omega⟩, ⟨bK⟩, ⟨bB⟩⟩
     ·rw [if_neg c6] at H
      exact absurd H (by simp)
    ·rw [if_neg c5] at H
     exact absurd H (by simp)
   ·rw [if_neg c4] at H
    have c4b0 : decide (x9_1 < (l0_2.length : Int)) = false := decide_eq_false c4
    clear c4
    by_cases c13 : a0_0 = 7
    ·rw [if_pos c13] at H
     have c13b0 : (a0_0 == 7) = true := beq_iff_eq.mpr c13
     have c13b1 : (a0_0 != 7) = false := bne_eq_false_iff_eq.mpr c13
     clear c13
     obtain rfl := Option.some.inj H
     have hcz14_0 : wr.cell? ⟨gb411, 0, none⟩ = some (.int .i64 a0_0) := (blk_cell BK411.out 0).trans rfl
     have hcz14_1 : wr.cell? ⟨gb411, 1, none⟩ = some (.int .i64 a0_1) := (blk_cell BK411.out 1).trans rfl
     have hcz14_2 : wr.cell? ⟨gb411, 2, none⟩ = some (.slice A0_2 l0_2.length c0_2) := (blk_cell BK411.out 2).trans rfl
     have hfz14_0 := blk_frozen BK411.out 0
     have hfz14_1 := blk_frozen BK411.out 1
     have hfz14_2 := blk_frozen BK411.out 2
     go_wp2
     go_ret
     exact ⟨by first | rfl | (simp [errW_none, errW_some] <;> rfl) | (simp [*, errW_none, errW_some] <;> rfl), bB⟩
    ·rw [if_neg c13] at H
     have c13b0 : (a0_0 == 7) = false := beq_eq_false_iff_ne.mpr c13
     have c13b1 : (a0_0 != 7) = true := bne_iff_ne.mpr c13
     obtain rfl := Option.some.inj H
     have hcz15_0 : wr.cell? ⟨gb411, 0, none⟩ = some (.int .i64 a0_0) := (blk_cell BK411.out 0).trans rfl
     have hcz15_1 : wr.cell? ⟨gb411, 1, none⟩ = some (.int .i64 a0_1) := (blk_cell BK411.out 1).trans rfl
     have hcz15_2 : wr.cell? ⟨gb411, 2, none⟩ = some (.slice A0_2 l0_2.length c0_2) := (blk_cell BK411.out 2).trans rfl
     have hfz15_0 := blk_frozen BK411.out 0
     have hfz15_1 := blk_frozen BK411.out 1
     have hfz15_2 := blk_frozen BK411.out 2
     go_wp2
     go_ret
     exact ⟨by first | rfl | (simp [errW_none, errW_some] <;> rfl) | (simp [*, errW_none, errW_some] <;> rfl), bB⟩
end Go.Proofs.Ytjofkebiacaciaa.PAll
end
section
namespace Go.Proofs.Ytjofkebiacaciaa.PAll
open Go.RowKit Go.Proofs.YtjofkebiacaciaaW.PrintWords Go.Proofs.YtjofkebiacaciaaW.PrintLast Go.Proofs.YtjofkebiacaciaaW.PrintMore
attribute [local go_sem] max2_int min2_int max_two min_two max_three min_three max_four min_four
set_option linter.unusedVariables false
set_option linter.unusedSimpArgs false
mutual
def semigroupref04_Uses.l0 : Nat → Int → List (S24) → Int → Int → Option (Bool)
 | 0, _, _, _, _ => none
 | k + 1, x1, x12, x13, x14 => if x14 < x13 then (if 0 ≤ x14 then (if x14 < (x12.length : Int) then ((semigroupref04_Uses.f k ((rd_T24 x12 x14).f0) ((rd_T24 x12 x14).f1) ((rd_T24 x12 x14).f2) x1).bind fun t418 => (if t418 = true then (some true) else (semigroupref04_Uses.l0 k x1 x12 x13 (wrap64 (x14 + 1))))) else (none)) else (none)) else (some false)
def semigroupref04_Uses.f : Nat → Int → Int → List (S24) → Int → Option (Bool)
 | 0, _, _, _, _ => none
 | k + 1, a0_0, a0_1, l0_2, a1 => if a0_0 = a1 then (some true) else (semigroupref04_Uses.l0 k a1 l0_2 (l0_2.length : Int) 0)
end
theorem semigroupref04_Uses.mono_l : ∀ k, (∀ y0 y1 y2 y3, LeO (semigroupref04_Uses.f k y0 y1 y2 y3) (semigroupref04_Uses.f (k + 1) y0 y1 y2 y3)) ∧ (∀ y0 y1 y2 y3, LeO (semigroupref04_Uses.l0 k y0 y1 y2 y3) (semigroupref04_Uses.l0 (k + 1) y0 y1 y2 y3))
 | 0 => ⟨fun _ _ _ _ r h => by simp [semigroupref04_Uses.f] at h, fun _ _ _ _ r h => by simp [semigroupref04_Uses.l0] at h⟩
 | k + 1 => by
  obtain ⟨ih0, ih1⟩ := semigroupref04_Uses.mono_l k
  refine ⟨?_, ?_⟩
  ·intro y0 y1 y2 y3
   unfold semigroupref04_Uses.f
   repeat' first
   | (with_reducible exact ih0 _ _ _ _)
   | (with_reducible exact ih1 _ _ _ _)
   | (with_reducible exact LeO.refl _)
   | (with_reducible exact LeO.none _)
   | (with_reducible refine LeO.ite ?_ ?_)
   | (with_reducible refine LeO.bind ?_ (fun _ => ?_))
   | exact ih0 _ _ _ _
   | exact ih1 _ _ _ _
   | exact LeO.none _
   | refine LeO.ite ?_ ?_
   | refine LeO.bind ?_ (fun _ => ?_)
  ·intro y0 y1 y2 y3
   unfold semigroupref04_Uses.l0
   repeat' first
   | (with_reducible exact ih0 _ _ _ _)
   | (with_reducible exact ih1 _ _ _ _)
   | (with_reducible exact LeO.refl _)
   | (with_reducible exact LeO.none _)
   | (with_reducible refine LeO.ite ?_ ?_)
   | (with_reducible refine LeO.bind ?_ (fun _ => ?_))
   | exact ih0 _ _ _ _
   | exact ih1 _ _ _ _
   | exact LeO.none _
   | refine LeO.ite ?_ ?_
   | refine LeO.bind ?_ (fun _ => ?_)
theorem semigroupref04_Uses.mono : ∀ a0 a1 a2 a3 k, LeO (semigroupref04_Uses.f k a0 a1 a2 a3) (semigroupref04_Uses.f (k + 1) a0 a1 a2 a3) := by
 intro a0 a1 a2 a3 k
 obtain ⟨ih0, ih1⟩ := semigroupref04_Uses.mono_l k
 exact ih0 a0 a1 a2 a3
set_option maxHeartbeats 8000000 in
set_option maxRecDepth 100000 in
theorem semigroupref04_Uses.calls (k : Nat) : ∀ (a0_0 : Int) (a0_1 : Int) (A0_2 : Option Addr) (c0_2 : Nat) (l0_2 : List (S24)) (a1 : Int) (r : Bool) (w : World) (hr0_2 : Kd.C k24 w A0_2 l0_2.length l0_2) (hc0_2 : l0_2.length ≤ c0_2) (h : semigroupref04_Uses.f k a0_0 a0_1 l0_2 a1 = some r),
  Calls Try.prog 33 #[.agg #[.int .i64 a0_0, .int .i64 a0_1, .slice A0_2 l0_2.length c0_2], .int .i64 a1] w fun e w' => e = .returned (.bool r) ∧ Below w.heap.size w w' := by
 induction k using Nat.strongRecOn with
 | _ k ih =>
 intro a0_0 a0_1 A0_2 c0_2 l0_2 a1 r w hr0_2 hc0_2 h
 cases k with
 | zero => exact absurd h (by simp [semigroupref04_Uses.f])
 | succ k =>
 simp only [semigroupref04_Uses.f] at h
 have hu24 := Try.underlying24
 have HR0_2 := Aside0.mk hr0_2
 have HC0_2 := Aside0.mk hc0_2
 clear hr0_2 hc0_2
 have HB := Aside0.mk (Below.refl w.heap.size w)
 have H : (if a0_0 = a1 then (some true) else (semigroupref04_Uses.l0 k a1 l0_2 (l0_2.length : Int) 0)) = some r := h
 clear h
 by_cases c3 : a0_0 = a1
 ·rw [if_pos c3] at H
  have c3b0 : (a0_0 == a1) = true := beq_iff_eq.mpr c3
  have c3b1 : (a0_0 != a1) = false := bne_eq_false_iff_eq.mpr c3
  clear c3
  obtain rfl := Option.some.inj H
  go_enter Try.func33, Try.ntmps33
  go_wp2_with (first | ((with_reducible refine gate_dst (N := 2) rfl ?_); refine box_event ?hg (N := 2) ?hd (cs := #[.int .i64 a0_0, .int .i64 a0_1, .slice A0_2 l0_2.length c0_2]) (t := 24) ?hr ?_; (case hd => rfl); (case hg => rfl); (case hr => first | (go_simp; done) | (go_simp; rfl)); intro gb415 hg w4 hbox hb; have n0_ := Aside0.mk (below_step (bB) hb); have n1_ := Aside0.mk (hbox); have n2_ := Aside0.mk ((by rw [hg]; exact (below_size (bB)) : w.heap.size ≤ gb415)); have n3_ := Aside0.mk ((by rw [hg]; exact (below_size (bB)) : w.heap.size ≤ gb415)); clear HB; have HB := n0_; have BK415 := n1_; have GW415 := n2_; have GE415 := n3_; clear n0_ n1_ n2_ n3_; clear hb hbox hg; have hcz5_0 : w4.cell? ⟨gb415, 0, none⟩ = some (.int .i64 a0_0) := (blk_cell BK415.out 0).trans rfl; have hcz5_1 : w4.cell? ⟨gb415, 1, none⟩ = some (.int .i64 a0_1) := (blk_cell BK415.out 1).trans rfl; have hcz5_2 : w4.cell? ⟨gb415, 2, none⟩ = some (.slice A0_2 l0_2.length c0_2) := (blk_cell BK415.out 2).trans rfl; have hfz5_0 := blk_frozen BK415.out 0; have hfz5_1 := blk_frozen BK415.out 1; have hfz5_2 := blk_frozen BK415.out 2))
  go_ret
  exact ⟨by first | rfl | (simp [errW_none, errW_some] <;> rfl) | (simp [*, errW_none, errW_some] <;> rfl), bB⟩
 ·rw [if_neg c3] at H
  have c3b0 : (a0_0 == a1) = false := beq_eq_false_iff_ne.mpr c3
  have c3b1 : (a0_0 != a1) = true := bne_iff_ne.mpr c3
  have H' := Aside0.mk H
  clear H
  go_enter Try.func33, Try.ntmps33
  go_wp2_with (first | ((with_reducible refine gate_dst (N := 2) rfl ?_); refine box_event ?hg (N := 2) ?hd (cs := #[.int .i64 a0_0, .int .i64 a0_1, .slice A0_2 l0_2.length c0_2]) (t := 24) ?hr ?_; (case hd => rfl); (case hg => rfl); (case hr => first | (go_simp; done) | (go_simp; rfl)); intro gb415 hg w6 hbox hb; have n0_ := Aside0.mk (below_step (bB) hb); have n1_ := Aside0.mk (hbox); have n2_ := Aside0.mk ((by rw [hg]; exact (below_size (bB)) : w.heap.size ≤ gb415)); have n3_ := Aside0.mk ((by rw [hg]; exact (below_size (bB)) : w.heap.size ≤ gb415)); clear HB; have HB := n0_; have BK415 := n1_; have GW415 := n2_; have GE415 := n3_; clear n0_ n1_ n2_ n3_; clear hb hbox hg; have hcz7_0 : w6.cell? ⟨gb415, 0, none⟩ = some (.int .i64 a0_0) := (blk_cell BK415.out 0).trans rfl; have hcz7_1 : w6.cell? ⟨gb415, 1, none⟩ = some (.int .i64 a0_1) := (blk_cell BK415.out 1).trans rfl; have hcz7_2 : w6.cell? ⟨gb415, 2, none⟩ = some (.slice A0_2 l0_2.length c0_2) := (blk_cell BK415.out 2).trans rfl; have hfz7_0 := blk_frozen BK415.out 0; have hfz7_1 := blk_frozen BK415.out 1; have hfz7_2 := blk_frozen BK415.out 2))
  go_loopg [14] k (fun kq v14 w' => ∃ (x14_1 : Int), v14 = .int .i64 x14_1 ∧ Aside0 (semigroupref04_Uses.l0 kq a1 l0_2 (l0_2.length : Int) x14_1 = some r) ∧ Aside0 (kq ≤ k) ∧ Aside0 (w'.heap[gb415]? = some (.cells #[.int .i64 a0_0, .int .i64 a0_1, (.slice A0_2 l0_2.length c0_2)] 24 (0, 0))) ∧ Aside0 (Below w.heap.size w w'))
  case atStart => exact ⟨(0), (by first | rfl | (simp; done) | (simp [*]; done)), H', ⟨Nat.le_refl _⟩, ⟨bK⟩, ⟨bB⟩⟩
  case round =>
   clear H'
   try clear p2
   try clear c3
   try clear c3b0
   try clear c3b1
   try clear hcz5_0
   try clear hcz5_1
   try clear hcz5_2
   try clear hcz7_0
   try clear hcz7_1
   try clear hcz7_2
   try clear hfz5_0
   try clear hfz5_1
   try clear hfz5_2
   try clear hfz7_0
   try clear hfz7_1
   try clear hfz7_2
   obtain ⟨x14_1, rfl, HA, HK1, BK415, HB⟩ := hrel
   cases gk with
   | zero => exact absurd HA.out (by simp [semigroupref04_Uses.l0])
   | succ k1 =>
    have H := HA.out
    clear HA
    simp only [semigroupref04_Uses.l0] at H
    by_cases c8 : x14_1 < (l0_2.length : Int)
    ·rw [if_pos c8] at H
     have c8b0 : decide (x14_1 < (l0_2.length : Int)) = true := decide_eq_true c8
     clear c8
     by_cases c9 : 0 ≤ x14_1
     ·rw [if_pos c9] at H
      have c9b0 : decide (0 ≤ x14_1) = true := decide_eq_true c9
      clear c9
      by_cases c10 : x14_1 < (l0_2.length : Int)
      ·rw [if_pos c10] at H
       have c10b0 : decide (x14_1 < (l0_2.length : Int)) = true := decide_eq_true c10
       clear c10
       replace H := Option.bind_eq_some_iff.mp H
       obtain ⟨t418, A110, H⟩ := H
       replace H : (if t418 = true then (some true) else (semigroupref04_Uses.l0 k1 a1 l0_2 (l0_2.length : Int) (wrap64 (x14_1 + 1)))) = some r := H
       have A11 := Aside0.mk A110
       clear A110
       by_cases c12 : t418 = true
       ·subst c12
        have H1 : (some true) = some r := by rw [if_pos rfl] at H; exact H
        clear H
        have H := H1
        clear H1
        obtain rfl := Option.some.inj H
        have p416 : 0 ≤ (x14_1 : Int) := of_decide_eq_true (by first | (with_reducible assumption) | assumption)
        have q416 : x14_1 < (l0_2.length : Int) := of_decide_eq_true (by first | (with_reducible assumption) | assumption)
        obtain ⟨ad416, A416_2, c416_2, e416, hx416_0, hx416_1, hx416_2, hl416_2, hi416_2⟩ := at_T24 HR0_2.out x14_1 p416 q416
        cases e416
        replace hx416_0 := (HB.out.cell (World.block_lt_of_cell? w _ hx416_0)).trans hx416_0
        replace hx416_1 := (HB.out.cell (World.block_lt_of_cell? w _ hx416_1)).trans hx416_1
        replace hx416_2 := (HB.out.cell (World.block_lt_of_cell? w _ hx416_2)).trans hx416_2
        have HR416_2 := Aside0.mk hi416_2
        have HC416_2 := Aside0.mk hl416_2
        clear hi416_2 hl416_2
        replace p416 := eq_true p416
        replace q416 := eq_true q416
        go_wp2_with (first | ((with_reducible refine gate_dst (N := 6) rfl ?_); refine box_event ?hg (N := 6) ?hd (cs := #[.int .i64 0, .int .i64 0, .slice none 0 0]) (t := 24) ?hr ?_; (case hd => rfl); (case hg => rfl); (case hr => first | (go_simp; done) | (go_simp; rfl)); intro gb417 hg w13 hbox hb; have n0_ := Aside0.mk (blk_below (g := gb415) (o := .cells #[.int .i64 a0_0, .int .i64 a0_1, .slice (some ad416) l0_2.length c0_2] 24 (0, 0)) (bK) hb); have n1_ := Aside0.mk (below_step (bB) hb); have n2_ := Aside0.mk (hbox); have n3_ := Aside0.mk ((by rw [hg]; exact (below_size (bB)) : w.heap.size ≤ gb417)); have n4_ := Aside0.mk ((by rw [hg]; exact (below_size (bB)) : w.heap.size ≤ gb417)); have n5_ := Aside0.mk ((by rw [hg]; exact Nat.ne_of_lt (blk_lt (g := gb415) (o := .cells #[.int .i64 a0_0, .int .i64 a0_1, .slice (some ad416) l0_2.length c0_2] 24 (0, 0)) (bK)) : gb415 ≠ gb417)); have n6_ := Aside0.mk ((by rw [hg]; exact Nat.ne_of_gt (blk_lt (g := gb415) (o := .cells #[.int .i64 a0_0, .int .i64 a0_1, .slice (some ad416) l0_2.length c0_2] 24 (0, 0)) (bK)) : gb417 ≠ gb415)); clear BK415; clear HB; have BK415 := n0_; have HB := n1_; have BK417 := n2_; have GW417 := n3_; have GE417 := n4_; have NB415_417 := n5_; have NB417_415 := n6_; clear n0_ n1_ n2_ n3_ n4_ n5_ n6_; clear hb hbox hg; have hnb14 := NB417_415.out; have hnc14 := NB415_417.out; have hcz15_0 : w13.cell? ⟨gb417, 0, none⟩ = some (.int .i64 0) := (blk_cell BK417.out 0).trans rfl; have hcz15_1 : w13.cell? ⟨gb417, 1, none⟩ = some (.int .i64 0) := (blk_cell BK417.out 1).trans rfl; have hcz15_2 : w13.cell? ⟨gb417, 2, none⟩ = some (.slice none 0 0) := (blk_cell BK417.out 2).trans rfl; have hfz15_0 := blk_frozen BK417.out 0; have hfz15_1 := blk_frozen BK417.out 1; have hfz15_2 := blk_frozen BK417.out 2) | ((with_reducible refine gate_callee (f := 33) rfl ?_); refine goesL_ (some 20) rfl rfl Try.func33 (by kernel_rfl) rfl #[.agg #[.int .i64 ((rd_T24 l0_2 x14_1).f0), .int .i64 ((rd_T24 l0_2 x14_1).f1), .slice A416_2 ((rd_T24 l0_2 x14_1).f2).length c416_2], .int .i64 a1] rfl (by (try simp only [List.map_toArray, List.map_cons, List.map_nil]); first | done | rfl | (simp only [List.length_drop, List.length_take]; rfl) | (simp only [Int.ofNat_lt, Int.ofNat_le]; rfl)) ?_; (with_reducible refine (ih k1 (by have := HK1.out; omega) ((rd_T24 l0_2 x14_1).f0) ((rd_T24 l0_2 x14_1).f1) _ _ ((rd_T24 l0_2 x14_1).f2) a1 true _ ?side1 ?side2 A11.out).mono ?_); (case side1 => exact Kd.C_below HR416_2.out (bB)); (case side2 => exact HC416_2.out); rintro e w16 ⟨rfl, hb⟩; refine ⟨_, rfl, ?_⟩; have n0_ := Aside0.mk (blk_below (g := gb415) (o := .cells #[.int .i64 a0_0, .int .i64 a0_1, .slice (some ad416) l0_2.length c0_2] 24 (0, 0)) (by (with_reducible repeat (first | refine blk_drewN ?_ _ | refine blk_drew ?_ | refine blk_alloc ?_ _)); refine blk_far ?_ NB415_417.out _; (with_reducible repeat (first | refine blk_drewN ?_ _ | refine blk_drew ?_ | refine blk_alloc ?_ _)); refine blk_far ?_ NB415_417.out _; (with_reducible repeat (first | refine blk_drewN ?_ _ | refine blk_drew ?_ | refine blk_alloc ?_ _)); refine blk_far ?_ NB415_417.out _; (with_reducible repeat (first | refine blk_drewN ?_ _ | refine blk_drew ?_ | refine blk_alloc ?_ _)); exact BK415.out) hb); have n1_ := Aside0.mk (blk_below (g := gb417) (o := .cells #[.int .i64 ((rd_T24 l0_2 x14_1).f0), .int .i64 ((rd_T24 l0_2 x14_1).f1), .slice A416_2 ((rd_T24 l0_2 x14_1).f2).length c416_2] 24 (0, 0)) (by (with_reducible repeat (first | refine blk_drewN ?_ _ | refine blk_drew ?_ | refine blk_alloc ?_ _)); refine blk_put (cs := #[.int .i64 ((rd_T24 l0_2 x14_1).f0), .int .i64 ((rd_T24 l0_2 x14_1).f1), .slice none 0 0]) ?_ 2 _ rfl; (with_reducible repeat (first | refine blk_drewN ?_ _ | refine blk_drew ?_ | refine blk_alloc ?_ _)); refine blk_put (cs := #[.int .i64 ((rd_T24 l0_2 x14_1).f0), .int .i64 0, .slice none 0 0]) ?_ 1 _ rfl; (with_reducible repeat (first | refine blk_drewN ?_ _ | refine blk_drew ?_ | refine blk_alloc ?_ _)); refine blk_put (cs := #[.int .i64 0, .int .i64 0, .slice none 0 0]) ?_ 0 _ rfl; (with_reducible repeat (first | refine blk_drewN ?_ _ | refine blk_drew ?_ | refine blk_alloc ?_ _)); exact BK417.out) hb); have n2_ := Aside0.mk (below_step (bB) hb); clear BK415; clear BK417; clear HB; have BK415 := n0_; have BK417 := n1_; have HB := n2_; clear n0_ n1_ n2_; (try clear hb); (try clear hb2); (try clear hk); (try clear hi)))
        go_ret
        exact ⟨by first | rfl | (simp [errW_none, errW_some] <;> rfl) | (simp [*, errW_none, errW_some] <;> rfl), bB⟩
       ·replace c12 := Bool.eq_false_iff.mpr c12
        subst c12
        have H1 : (semigroupref04_Uses.l0 k1 a1 l0_2 (l0_2.length : Int) (wrap64 (x14_1 + 1))) = some r := by rw [if_neg (show ¬ (false = true) by decide)] at H; exact H
        clear H
        have H := H1
        clear H1
        have H' := Aside0.mk H
        clear H
        have p416 : 0 ≤ (x14_1 : Int) := of_decide_eq_true (by first | (with_reducible assumption) | assumption)
        have q416 : x14_1 < (l0_2.length : Int) := of_decide_eq_true (by first | (with_reducible assumption) | assumption)
        obtain ⟨ad416, A416_2, c416_2, e416, hx416_0, hx416_1, hx416_2, hl416_2, hi416_2⟩ := at_T24 HR0_2.out x14_1 p416 q416
        cases e416
        replace hx416_0 := (HB.out.cell (World.block_lt_of_cell? w _ hx416_0)).trans hx416_0
        replace hx416_1 := (HB.out.cell (World.block_lt_of_cell? w _ hx416_1)).trans hx416_1
        replace hx416_2 := (HB.out.cell (World.block_lt_of_cell? w _ hx416_2)).trans hx416_2
        have HR416_2 := Aside0.mk hi416_2
        have HC416_2 := Aside0.mk hl416_2
        clear hi416_2 hl416_2
        replace p416 := eq_true p416
        replace q416 := eq_true q416
        go_wp2_with (first | ((with_reducible refine gate_dst (N := 6) rfl ?_); refine box_event ?hg (N := 6) ?hd (cs := #[.int .i64 0, .int .i64 0, .slice none 0 0]) (t := 24) ?hr ?_; (case hd => rfl); (case hg => rfl); (case hr => first | (go_simp; done) | (go_simp; rfl)); intro gb417 hg w17 hbox hb; have n0_ := Aside0.mk (blk_below (g := gb415) (o := .cells #[.int .i64 a0_0, .int .i64 a0_1, .slice (some ad416) l0_2.length c0_2] 24 (0, 0)) (bK) hb); have n1_ := Aside0.mk (below_step (bB) hb); have n2_ := Aside0.mk (hbox); have n3_ := Aside0.mk ((by rw [hg]; exact (below_size (bB)) : w.heap.size ≤ gb417)); have n4_ := Aside0.mk ((by rw [hg]; exact (below_size (bB)) : w.heap.size ≤ gb417)); have n5_ := Aside0.mk ((by rw [hg]; exact Nat.ne_of_lt (blk_lt (g := gb415) (o := .cells #[.int .i64 a0_0, .int .i64 a0_1, .slice (some ad416) l0_2.length c0_2] 24 (0, 0)) (bK)) : gb415 ≠ gb417)); have n6_ := Aside0.mk ((by rw [hg]; exact Nat.ne_of_gt (blk_lt (g := gb415) (o := .cells #[.int .i64 a0_0, .int .i64 a0_1, .slice (some ad416) l0_2.length c0_2] 24 (0, 0)) (bK)) : gb417 ≠ gb415)); clear BK415; clear HB; have BK415 := n0_; have HB := n1_; have BK417 := n2_; have GW417 := n3_; have GE417 := n4_; have NB415_417 := n5_; have NB417_415 := n6_; clear n0_ n1_ n2_ n3_ n4_ n5_ n6_; clear hb hbox hg; have hnb18 := NB417_415.out; have hnc18 := NB415_417.out; have hcz19_0 : w17.cell? ⟨gb417, 0, none⟩ = some (.int .i64 0) := (blk_cell BK417.out 0).trans rfl; have hcz19_1 : w17.cell? ⟨gb417, 1, none⟩ = some (.int .i64 0) := (blk_cell BK417.out 1).trans rfl; have hcz19_2 : w17.cell? ⟨gb417, 2, none⟩ = some (.slice none 0 0) := (blk_cell BK417.out 2).trans rfl; have hfz19_0 := blk_frozen BK417.out 0; have hfz19_1 := blk_frozen BK417.out 1; have hfz19_2 := blk_frozen BK417.out 2) | ((with_reducible refine gate_callee (f := 33) rfl ?_); refine goesL_ (some 20) rfl rfl Try.func33 (by kernel_rfl) rfl #[.agg #[.int .i64 ((rd_T24 l0_2 x14_1).f0), .int .i64 ((rd_T24 l0_2 x14_1).f1), .slice A416_2 ((rd_T24 l0_2 x14_1).f2).length c416_2], .int .i64 a1] rfl (by (try simp only [List.map_toArray, List.map_cons, List.map_nil]); first | done | rfl | (simp only [List.length_drop, List.length_take]; rfl) | (simp only [Int.ofNat_lt, Int.ofNat_le]; rfl)) ?_; (with_reducible refine (ih k1 (by have := HK1.out; omega) ((rd_T24 l0_2 x14_1).f0) ((rd_T24 l0_2 x14_1).f1) _ _ ((rd_T24 l0_2 x14_1).f2) a1 false _ ?side1 ?side2 A11.out).mono ?_); (case side1 => exact Kd.C_below HR416_2.out (bB)); (case side2 => exact HC416_2.out); rintro e w20 ⟨rfl, hb⟩; refine ⟨_, rfl, ?_⟩; have n0_ := Aside0.mk (blk_below (g := gb415) (o := .cells #[.int .i64 a0_0, .int .i64 a0_1, .slice (some ad416) l0_2.length c0_2] 24 (0, 0)) (by (with_reducible repeat (first | refine blk_drewN ?_ _ | refine blk_drew ?_ | refine blk_alloc ?_ _)); refine blk_far ?_ NB415_417.out _; (with_reducible repeat (first | refine blk_drewN ?_ _ | refine blk_drew ?_ | refine blk_alloc ?_ _)); refine blk_far ?_ NB415_417.out _; (with_reducible repeat (first | refine blk_drewN ?_ _ | refine blk_drew ?_ | refine blk_alloc ?_ _)); refine blk_far ?_ NB415_417.out _; (with_reducible repeat (first | refine blk_drewN ?_ _ | refine blk_drew ?_ | refine blk_alloc ?_ _)); exact BK415.out) hb); have n1_ := Aside0.mk (blk_below (g := gb417) (o := .cells #[.int .i64 ((rd_T24 l0_2 x14_1).f0), .int .i64 ((rd_T24 l0_2 x14_1).f1), .slice A416_2 ((rd_T24 l0_2 x14_1).f2).length c416_2] 24 (0, 0)) (by (with_reducible repeat (first | refine blk_drewN ?_ _ | refine blk_drew ?_ | refine blk_alloc ?_ _)); refine blk_put (cs := #[.int .i64 ((rd_T24 l0_2 x14_1).f0), .int .i64 ((rd_T24 l0_2 x14_1).f1), .slice none 0 0]) ?_ 2 _ rfl; (with_reducible repeat (first | refine blk_drewN ?_ _ | refine blk_drew ?_ | refine blk_alloc ?_ _)); refine blk_put (cs := #[.int .i64 ((rd_T24 l0_2 x14_1).f0), .int .i64 0, .slice none 0 0]) ?_ 1 _ rfl; (with_reducible repeat (first | refine blk_drewN ?_ _ | refine blk_drew ?_ | refine blk_alloc ?_ _)); refine blk_put (cs := #[.int .i64 0, .int .i64 0, .slice none 0 0]) ?_ 0 _ rfl; (with_reducible repeat (first | refine blk_drewN ?_ _ | refine blk_drew ?_ | refine blk_alloc ?_ _)); exact BK417.out) hb); have n2_ := Aside0.mk (below_step (bB) hb); clear BK415; clear BK417; clear HB; have BK415 := n0_; have BK417 := n1_; have HB := n2_; clear n0_ n1_ n2_; (try clear hb); (try clear hb2); (try clear hk); (try clear hi)))
        (first | go_roundg k1 | ((simp only [add_plain] at *); go_roundg k1))
        case measure => have := HK1.out; omega
        case rel => exact ⟨(wrap64 (x14_1 + 1)), (by first | rfl | (simp; done) | (simp [*]; done)), H', ⟨by have := HK1.out; omega⟩, ⟨bK⟩, ⟨bB⟩⟩
      ·rw [if_neg c10] at H
       exact absurd H (by simp)
     ·rw [if_neg c9] at H
      exact absurd H (by simp)
    ·rw [if_neg c8] at H
     have c8b0 : decide (x14_1 < (l0_2.length : Int)) = false := decide_eq_false c8
     clear c8
     obtain rfl := Option.some.inj H
     go_wp2
     go_ret
     exact ⟨by first | rfl | (simp [errW_none, errW_some] <;> rfl) | (simp [*, errW_none, errW_some] <;> rfl), bB⟩
end Go.Proofs.Ytjofkebiacaciaa.PAll
end
section
namespace Go.Proofs.Ytjofkebiacaciaa.PAll
open Go.RowKit Go.Proofs.YtjofkebiacaciaaW.PrintWords Go.Proofs.YtjofkebiacaciaaW.PrintLast Go.Proofs.YtjofkebiacaciaaW.PrintMore
attribute [local go_sem] max2_int min2_int max_two min_two max_three min_three max_four min_four
set_option linter.unusedVariables false
set_option linter.unusedSimpArgs false
mutual
def semigroupref04_Nullable.l0 : Nat → Bool → Bool → List (S24) → Int → Int → Int → Int → List (S24) → Option (Bool)
 | 0, _, _, _, _, _, _, _, _ => none
 | k + 1, x3, x4, x9, x10, x11, x420000, x420001, x420002 => if x11 < x10 then (if 0 ≤ x11 then (if x11 < (x9.length : Int) then ((semigroupref04_Nullable.f k ((rd_T24 x9 x11).f0) ((rd_T24 x9 x11).f1) ((rd_T24 x9 x11).f2)).bind fun t422 => (if x3 = true then (if x4 = true then (semigroupref04_Nullable.l0 k t422 true x9 x10 (wrap64 (x11 + 1)) x420000 x420001 x420002) else (semigroupref04_Nullable.l0 k t422 t422 x9 x10 (wrap64 (x11 + 1)) x420000 x420001 x420002)) else (if x4 = true then (semigroupref04_Nullable.l0 k false true x9 x10 (wrap64 (x11 + 1)) x420000 x420001 x420002) else (semigroupref04_Nullable.l0 k false t422 x9 x10 (wrap64 (x11 + 1)) x420000 x420001 x420002)))) else (none)) else (none)) else (if x420000 = 2 then (semigroupref04_Nullable.j1 k x3 x4 x420000 (x420000 == 2)) else (semigroupref04_Nullable.j1 k x3 x4 x420000 (x420000 == 7)))
def semigroupref04_Nullable.j1 : Nat → Bool → Bool → Int → Bool → Option (Bool)
 | 0, _, _, _, _ => none
 | k + 1, x3, x4, x27, x28 => if x28 = true then (some true) else (if x27 = 4 then (some x4) else (if x27 = 5 then (semigroupref04_Nullable.j2 k x3 x4 x27 (x27 == 5)) else (semigroupref04_Nullable.j2 k x3 x4 x27 (x27 == 6))))
def semigroupref04_Nullable.j2 : Nat → Bool → Bool → Int → Bool → Option (Bool)
 | 0, _, _, _, _ => none
 | k + 1, x3, x4, x27, x34 => if x34 = true then (some x3) else (if x27 = 8 then (some (!x4)) else (some false))
def semigroupref04_Nullable.f : Nat → Int → Int → List (S24) → Option (Bool)
 | 0, _, _, _ => none
 | k + 1, a0_0, a0_1, l0_2 => semigroupref04_Nullable.l0 k true false l0_2 (l0_2.length : Int) 0 a0_0 a0_1 l0_2
end
theorem semigroupref04_Nullable.mono_l : ∀ k, (∀ y0 y1 y2, LeO (semigroupref04_Nullable.f k y0 y1 y2) (semigroupref04_Nullable.f (k + 1) y0 y1 y2)) ∧ (∀ y0 y1 y2 y3 y4 y5 y6 y7, LeO (semigroupref04_Nullable.l0 k y0 y1 y2 y3 y4 y5 y6 y7) (semigroupref04_Nullable.l0 (k + 1) y0 y1 y2 y3 y4 y5 y6 y7)) ∧ (∀ y0 y1 y2 y3, LeO (semigroupref04_Nullable.j1 k y0 y1 y2 y3) (semigroupref04_Nullable.j1 (k + 1) y0 y1 y2 y3)) ∧ (∀ y0 y1 y2 y3, LeO (semigroupref04_Nullable.j2 k y0 y1 y2 y3) (semigroupref04_Nullable.j2 (k + 1) y0 y1 y2 y3))
 | 0 => ⟨fun _ _ _ r h => by simp [semigroupref04_Nullable.f] at h, fun _ _ _ _ _ _ _ _ r h => by simp [semigroupref04_Nullable.l0] at h, fun _ _ _ _ r h => by simp [semigroupref04_Nullable.j1] at h, fun _ _ _ _ r h => by simp [semigroupref04_Nullable.j2] at h⟩
 | k + 1 => by
  obtain ⟨ih0, ih1, ih2, ih3⟩ := semigroupref04_Nullable.mono_l k
  refine ⟨?_, ?_, ?_, ?_⟩
  ·intro y0 y1 y2
   unfold semigroupref04_Nullable.f
   repeat' first
   | (with_reducible exact ih0 _ _ _)
   | (with_reducible exact ih1 _ _ _ _ _ _ _ _)
   | (with_reducible exact ih2 _ _ _ _)
   | (with_reducible exact ih3 _ _ _ _)
   | (with_reducible exact LeO.refl _)
   | (with_reducible exact LeO.none _)
   | (with_reducible refine LeO.ite ?_ ?_)
   | (with_reducible refine LeO.bind ?_ (fun _ => ?_))
   | exact ih0 _ _ _
   | exact ih1 _ _ _ _ _ _ _ _
   | exact ih2 _ _ _ _
   | exact ih3 _ _ _ _
   | exact LeO.none _
   | refine LeO.ite ?_ ?_
   | refine LeO.bind ?_ (fun _ => ?_)
  ·intro y0 y1 y2 y3 y4 y5 y6 y7
   unfold semigroupref04_Nullable.l0
   repeat' first
   | (with_reducible exact ih0 _ _ _)
   | (with_reducible exact ih1 _ _ _ _ _ _ _ _)
   | (with_reducible exact ih2 _ _ _ _)
   | (with_reducible exact ih3 _ _ _ _)
   | (with_reducible exact LeO.refl _)
   | (with_reducible exact LeO.none _)
   | (with_reducible refine LeO.ite ?_ ?_)
   | (with_reducible refine LeO.bind ?_ (fun _ => ?_))
   | exact ih0 _ _ _
   | exact ih1 _ _ _ _ _ _ _ _
   | exact ih2 _ _ _ _
   | exact ih3 _ _ _ _
   | exact LeO.none _
   | refine LeO.ite ?_ ?_
   | refine LeO.bind ?_ (fun _ => ?_)
  ·intro y0 y1 y2 y3
   unfold semigroupref04_Nullable.j1
   repeat' first
   | (with_reducible exact ih0 _ _ _)
   | (with_reducible exact ih1 _ _ _ _ _ _ _ _)
   | (with_reducible exact ih2 _ _ _ _)
   | (with_reducible exact ih3 _ _ _ _)
   | (with_reducible exact LeO.refl _)
   | (with_reducible exact LeO.none _)
   | (with_reducible refine LeO.ite ?_ ?_)
   | (with_reducible refine LeO.bind ?_ (fun _ => ?_))
   | exact ih0 _ _ _
   | exact ih1 _ _ _ _ _ _ _ _
   | exact ih2 _ _ _ _
   | exact ih3 _ _ _ _
   | exact LeO.none _
   | refine LeO.ite ?_ ?_
   | refine LeO.bind ?_ (fun _ => ?_)
  ·intro y0 y1 y2 y3
   unfold semigroupref04_Nullable.j2
   repeat' first
   | (with_reducible exact ih0 _ _ _)
   | (with_reducible exact ih1 _ _ _ _ _ _ _ _)
   | (with_reducible exact ih2 _ _ _ _)
   | (with_reducible exact ih3 _ _ _ _)
   | (with_reducible exact LeO.refl _)
   | (with_reducible exact LeO.none _)
   | (with_reducible refine LeO.ite ?_ ?_)
   | (with_reducible refine LeO.bind ?_ (fun _ => ?_))
   | exact ih0 _ _ _
   | exact ih1 _ _ _ _ _ _ _ _
   | exact ih2 _ _ _ _
   | exact ih3 _ _ _ _
   | exact LeO.none _
   | refine LeO.ite ?_ ?_
   | refine LeO.bind ?_ (fun _ => ?_)
theorem semigroupref04_Nullable.mono : ∀ a0 a1 a2 k, LeO (semigroupref04_Nullable.f k a0 a1 a2) (semigroupref04_Nullable.f (k + 1) a0 a1 a2) := by
 intro a0 a1 a2 k
 obtain ⟨ih0, ih1, ih2, ih3⟩ := semigroupref04_Nullable.mono_l k
 exact ih0 a0 a1 a2
set_option maxHeartbeats 8000000 in
set_option maxRecDepth 100000 in
theorem semigroupref04_Nullable.calls (k : Nat) : ∀ (a0_0 : Int) (a0_1 : Int) (A0_2 : Option Addr) (c0_2 : Nat) (l0_2 : List (S24)) (r : Bool) (w : World) (hr0_2 : Kd.C k24 w A0_2 l0_2.length l0_2) (hc0_2 : l0_2.length ≤ c0_2) (h : semigroupref04_Nullable.f k a0_0 a0_1 l0_2 = some r),
  Calls Try.prog 34 #[.agg #[.int .i64 a0_0, .int .i64 a0_1, .slice A0_2 l0_2.length c0_2]] w fun e w' => e = .returned (.bool r) ∧ Below w.heap.size w w' := by
 induction k using Nat.strongRecOn with
 | _ k ih =>
 intro a0_0 a0_1 A0_2 c0_2 l0_2 r w hr0_2 hc0_2 h
 cases k with
 | zero => exact absurd h (by simp [semigroupref04_Nullable.f])
 | succ k =>
 simp only [semigroupref04_Nullable.f] at h
 have hu24 := Try.underlying24
 have HR0_2 := Aside0.mk hr0_2
 have HC0_2 := Aside0.mk hc0_2
 clear hr0_2 hc0_2
 have HB := Aside0.mk (Below.refl w.heap.size w)
 have H : (semigroupref04_Nullable.l0 k true false l0_2 (l0_2.length : Int) 0 a0_0 a0_1 l0_2) = some r := h
 clear h
 have H' := Aside0.mk H
 clear H
 go_enter Try.func34, Try.ntmps34
 go_wp2_with (first | ((with_reducible refine gate_dst (N := 1) rfl ?_); refine box_event ?hg (N := 1) ?hd (cs := #[.int .i64 a0_0, .int .i64 a0_1, .slice A0_2 l0_2.length c0_2]) (t := 24) ?hr ?_; (case hd => rfl); (case hg => rfl); (case hr => first | (go_simp; done) | (go_simp; rfl)); intro gb419 hg w2 hbox hb; have n0_ := Aside0.mk (below_step (bB) hb); have n1_ := Aside0.mk (hbox); have n2_ := Aside0.mk ((by rw [hg]; exact (below_size (bB)) : w.heap.size ≤ gb419)); have n3_ := Aside0.mk ((by rw [hg]; exact (below_size (bB)) : w.heap.size ≤ gb419)); clear HB; have HB := n0_; have BK419 := n1_; have GW419 := n2_; have GE419 := n3_; clear n0_ n1_ n2_ n3_; clear hb hbox hg; have hcz3_0 : w2.cell? ⟨gb419, 0, none⟩ = some (.int .i64 a0_0) := (blk_cell BK419.out 0).trans rfl; have hcz3_1 : w2.cell? ⟨gb419, 1, none⟩ = some (.int .i64 a0_1) := (blk_cell BK419.out 1).trans rfl; have hcz3_2 : w2.cell? ⟨gb419, 2, none⟩ = some (.slice A0_2 l0_2.length c0_2) := (blk_cell BK419.out 2).trans rfl; have hfz3_0 := blk_frozen BK419.out 0; have hfz3_1 := blk_frozen BK419.out 1; have hfz3_2 := blk_frozen BK419.out 2))
 go_loopg [3, 4, 11] k (fun kq v3 v4 v11 w' => ∃ (x3_1 : Bool) (x4_1 : Bool) (x11_1 : Int), v3 = .bool x3_1 ∧ v4 = .bool x4_1 ∧ v11 = .int .i64 x11_1 ∧ Aside0 (semigroupref04_Nullable.l0 kq x3_1 x4_1 l0_2 (l0_2.length : Int) x11_1 a0_0 a0_1 l0_2 = some r) ∧ Aside0 (kq ≤ k) ∧ Aside0 (w'.heap[gb419]? = some (.cells #[.int .i64 a0_0, .int .i64 a0_1, (.slice A0_2 l0_2.length c0_2)] 24 (0, 0))) ∧ Aside0 (Below w.heap.size w w'))
 case atStart => exact ⟨(true), (false), (0), (by first | rfl | (simp; done) | (simp [*]; done)), (by first | rfl | (simp; done) | (simp [*]; done)), (by first | rfl | (simp; done) | (simp [*]; done)), H', ⟨Nat.le_refl _⟩, ⟨bK⟩, ⟨bB⟩⟩
 case round =>
  clear H'
  try clear p2
  try clear c3
  try clear hcz3_0
  try clear hcz3_1
  try clear hcz3_2
  try clear hfz3_0
  try clear hfz3_1
  try clear hfz3_2
  obtain ⟨x3_1, x4_1, x11_1, rfl, rfl, rfl, HA, HK1, BK419, HB⟩ := hrel
  cases gk with
  | zero => exact absurd HA.out (by simp [semigroupref04_Nullable.l0])
  | succ k1 =>
   have H := HA.out
   clear HA
   simp only [semigroupref04_Nullable.l0] at H
   by_cases c4 : x11_1 < (l0_2.length : Int)
   ·rw [if_pos c4] at H
    have c4b0 : decide (x11_1 < (l0_2.length : Int)) = true := decide_eq_true c4
    clear c4
    by_cases c5 : 0 ≤ x11_1
    ·rw [if_pos c5] at H
     have c5b0 : decide (0 ≤ x11_1) = true := decide_eq_true c5
     clear c5
     by_cases c6 : x11_1 < (l0_2.length : Int)
     ·rw [if_pos c6] at H
      have c6b0 : decide (x11_1 < (l0_2.length : Int)) = true := decide_eq_true c6
      clear c6
      replace H := Option.bind_eq_some_iff.mp H
      obtain ⟨t422, A70, H⟩ := H
      replace H : (if x3_1 = true then (if x4_1 = true then (semigroupref04_Nullable.l0 k1 t422 true l0_2 (l0_2.length : Int) (wrap64 (x11_1 + 1)) a0_0 a0_1 l0_2) else (semigroupref04_Nullable.l0 k1 t422 t422 l0_2 (l0_2.length : Int) (wrap64 (x11_1 + 1)) a0_0 a0_1 l0_2)) else (if x4_1 = true then (semigroupref04_Nullable.l0 k1 false true l0_2 (l0_2.length : Int) (wrap64 (x11_1 + 1)) a0_0 a0_1 l0_2) else (semigroupref04_Nullable.l0 k1 false t422 l0_2 (l0_2.length : Int) (wrap64 (x11_1 + 1)) a0_0 a0_1 l0_2))) = some r := H
      have A7 := Aside0.mk A70
      clear A70
      by_cases c8 : x3_1 = true
      ·subst c8
       have H1 : (if x4_1 = true then (semigroupref04_Nullable.l0 k1 t422 true l0_2 (l0_2.length : Int) (wrap64 (x11_1 + 1)) a0_0 a0_1 l0_2) else (semigroupref04_Nullable.l0 k1 t422 t422 l0_2 (l0_2.length : Int) (wrap64 (x11_1 + 1)) a0_0 a0_1 l0_2)) = some r := by rw [if_pos rfl] at H; exact H
       clear H
       have H := H1
       clear H1
       by_cases c9 : x4_1 = true
       ·subst c9
        have H1 : (semigroupref04_Nullable.l0 k1 t422 true l0_2 (l0_2.length : Int) (wrap64 (x11_1 + 1)) a0_0 a0_1 l0_2) = some r := by rw [if_pos rfl] at H; exact H
        clear H
        have H := H1
        clear H1
        have H' := Aside0.mk H
        clear H
        have p420 : 0 ≤ (x11_1 : Int) := of_decide_eq_true (by first | (with_reducible assumption) | assumption)
        have q420 : x11_1 < (l0_2.length : Int) := of_decide_eq_true (by first | (with_reducible assumption) | assumption)
        obtain ⟨ad420, A420_2, c420_2, e420, hx420_0, hx420_1, hx420_2, hl420_2, hi420_2⟩ := at_T24 HR0_2.out x11_1 p420 q420
        cases e420
        replace hx420_0 := (HB.out.cell (World.block_lt_of_cell? w _ hx420_0)).trans hx420_0
        replace hx420_1 := (HB.out.cell (World.block_lt_of_cell? w _ hx420_1)).trans hx420_1
        replace hx420_2 := (HB.out.cell (World.block_lt_of_cell? w _ hx420_2)).trans hx420_2
        have HR420_2 := Aside0.mk hi420_2
        have HC420_2 := Aside0.mk hl420_2
        clear hi420_2 hl420_2
        replace p420 := eq_true p420
        replace q420 := eq_true q420
        go_wp2_with (first | ((with_reducible refine gate_dst (N := 6) rfl ?_); refine box_event ?hg (N := 6) ?hd (cs := #[.int .i64 0, .int .i64 0, .slice none 0 0]) (t := 24) ?hr ?_; (case hd => rfl); (case hg => rfl); (case hr => first | (go_simp; done) | (go_simp; rfl)); intro gb421 hg w10 hbox hb; have n0_ := Aside0.mk (blk_below (g := gb419) (o := .cells #[.int .i64 a0_0, .int .i64 a0_1, .slice (some ad420) l0_2.length c0_2] 24 (0, 0)) (bK) hb); have n1_ := Aside0.mk (below_step (bB) hb); have n2_ := Aside0.mk (hbox); have n3_ := Aside0.mk ((by rw [hg]; exact (below_size (bB)) : w.heap.size ≤ gb421)); have n4_ := Aside0.mk ((by rw [hg]; exact (below_size (bB)) : w.heap.size ≤ gb421)); have n5_ := Aside0.mk ((by rw [hg]; exact Nat.ne_of_lt (blk_lt (g := gb419) (o := .cells #[.int .i64 a0_0, .int .i64 a0_1, .slice (some ad420) l0_2.length c0_2] 24 (0, 0)) (bK)) : gb419 ≠ gb421)); have n6_ := Aside0.mk ((by rw [hg]; exact Nat.ne_of_gt (blk_lt (g := gb419) (o := .cells #[.int .i64 a0_0, .int .i64 a0_1, .slice (some ad420) l0_2.length c0_2] 24 (0, 0)) (bK)) : gb421 ≠ gb419)); clear BK419; clear HB; have BK419 := n0_; have HB := n1_; have BK421 := n2_; have GW421 := n3_; have GE421 := n4_; have NB419_421 := n5_; have NB421_419 := n6_; clear n0_ n1_ n2_ n3_ n4_ n5_ n6_; clear hb hbox hg; have hnb11 := NB421_419.out; have hnc11 := NB419_421.out; have hcz12_0 : w10.cell? ⟨gb421, 0, none⟩ = some (.int .i64 0) := (blk_cell BK421.out 0).trans rfl; have hcz12_1 : w10.cell? ⟨gb421, 1, none⟩ = some (.int .i64 0) := (blk_cell BK421.out 1).trans rfl; have hcz12_2 : w10.cell? ⟨gb421, 2, none⟩ = some (.slice none 0 0) := (blk_cell BK421.out 2).trans rfl; have hfz12_0 := blk_frozen BK421.out 0; have hfz12_1 := blk_frozen BK421.out 1; have hfz12_2 := blk_frozen BK421.out 2) | ((with_reducible refine gate_callee (f := 34) rfl ?_); refine goesL_ (some 16) rfl rfl Try.func34 (by kernel_rfl) rfl #[.agg #[.int .i64 ((rd_T24 l0_2 x11_1).f0), .int .i64 ((rd_T24 l0_2 x11_1).f1), .slice A420_2 ((rd_T24 l0_2 x11_1).f2).length c420_2]] rfl (by (try simp only [List.map_toArray, List.map_cons, List.map_nil]); first | done | rfl | (simp only [List.length_drop, List.length_take]; rfl) | (simp only [Int.ofNat_lt, Int.ofNat_le]; rfl)) ?_; (with_reducible refine (ih k1 (by have := HK1.out; omega) ((rd_T24 l0_2 x11_1).f0) ((rd_T24 l0_2 x11_1).f1) _ _ ((rd_T24 l0_2 x11_1).f2) t422 _ ?side1 ?side2 A7.out).mono ?_); (case side1 => exact Kd.C_below HR420_2.out (bB)); (case side2 => exact HC420_2.out); rintro e w13 ⟨rfl, hb⟩; refine ⟨_, rfl, ?_⟩; have n0_ := Aside0.mk (blk_below (g := gb419) (o := .cells #[.int .i64 a0_0, .int .i64 a0_1, .slice (some ad420) l0_2.length c0_2] 24 (0, 0)) (by (with_reducible repeat (first | refine blk_drewN ?_ _ | refine blk_drew ?_ | refine blk_alloc ?_ _)); refine blk_far ?_ NB419_421.out _; (with_reducible repeat (first | refine blk_drewN ?_ _ | refine blk_drew ?_ | refine blk_alloc ?_ _)); refine blk_far ?_ NB419_421.out _; (with_reducible repeat (first | refine blk_drewN ?_ _ | refine blk_drew ?_ | refine blk_alloc ?_ _)); refine blk_far ?_ NB419_421.out _; (with_reducible repeat (first | refine blk_drewN ?_ _ | refine blk_drew ?_ | refine blk_alloc ?_ _)); exact BK419.out) hb); have n1_ := Aside0.mk (blk_below (g := gb421) (o := .cells #[.int .i64 ((rd_T24 l0_2 x11_1).f0), .int .i64 ((rd_T24 l0_2 x11_1).f1), .slice A420_2 ((rd_T24 l0_2 x11_1).f2).length c420_2] 24 (0, 0)) (by (with_reducible repeat (first | refine blk_drewN ?_ _ | refine blk_drew ?_ | refine blk_alloc ?_ _)); refine blk_put (cs := #[.int .i64 ((rd_T24 l0_2 x11_1).f0), .int .i64 ((rd_T24 l0_2 x11_1).f1), .slice none 0 0]) ?_ 2 _ rfl; (with_reducible repeat (first | refine blk_drewN ?_ _ | refine blk_drew ?_ | refine blk_alloc ?_ _)); refine blk_put (cs := #[.int .i64 ((rd_T24 l0_2 x11_1).f0), .int .i64 0, .slice none 0 0]) ?_ 1 _ rfl; (with_reducible repeat (first | refine blk_drewN ?_ _ | refine blk_drew ?_ | refine blk_alloc ?_ _)); refine blk_put (cs := #[.int .i64 0, .int .i64 0, .slice none 0 0]) ?_ 0 _ rfl; (with_reducible repeat (first | refine blk_drewN ?_ _ | refine blk_drew ?_ | refine blk_alloc ?_ _)); exact BK421.out) hb); have n2_ := Aside0.mk (below_step (bB) hb); clear BK419; clear BK421; clear HB; have BK419 := n0_; have BK421 := n1_; have HB := n2_; clear n0_ n1_ n2_; (try clear hb); (try clear hb2); (try clear hk); (try clear hi)))
        (first | go_roundg k1 | ((simp only [add_plain] at *); go_roundg k1))
        case measure => have := HK1.out; omega
        case rel => exact ⟨(t422), (true), (wrap64 (x11_1 + 1)), (by first | rfl | (simp; done) | (simp [*]; done)), (by first | rfl | (simp; done) | (simp [*]; done)), (by first | rfl | (simp; done) | (simp [*]; done)), H', ⟨by have := HK1.out; omega⟩, ⟨bK⟩, ⟨bB⟩⟩
       ·replace c9 := Bool.eq_false_iff.mpr c9
        subst c9
        have H1 : (semigroupref04_Nullable.l0 k1 t422 t422 l0_2 (l0_2.length : Int) (wrap64 (x11_1 + 1)) a0_0 a0_1 l0_2) = some r := by rw [if_neg (show ¬ (false = true) by decide)] at H; exact H
        clear H
        have H := H1
        clear H1
        have H' := Aside0.mk H
        clear H
        have p420 : 0 ≤ (x11_1 : Int) := of_decide_eq_true (by first | (with_reducible assumption) | assumption)
        have q420 : x11_1 < (l0_2.length : Int) := of_decide_eq_true (by first | (with_reducible assumption) | assumption)
        obtain ⟨ad420, A420_2, c420_2, e420, hx420_0, hx420_1, hx420_2, hl420_2, hi420_2⟩ := at_T24 HR0_2.out x11_1 p420 q420
        cases e420
        replace hx420_0 := (HB.out.cell (World.block_lt_of_cell? w _ hx420_0)).trans hx420_0
        replace hx420_1 := (HB.out.cell (World.block_lt_of_cell? w _ hx420_1)).trans hx420_1
        replace hx420_2 := (HB.out.cell (World.block_lt_of_cell? w _ hx420_2)).trans hx420_2
        have HR420_2 := Aside0.mk hi420_2
        have HC420_2 := Aside0.mk hl420_2
        clear hi420_2 hl420_2
        replace p420 := eq_true p420
        replace q420 := eq_true q420
        go_wp2_with (first | ((with_reducible refine gate_dst (N := 6) rfl ?_); refine box_event ?hg (N := 6) ?hd (cs := #[.int .i64 0, .int .i64 0, .slice none 0 0]) (t := 24) ?hr ?_; (case hd => rfl); (case hg => rfl); (case hr => first | (go_simp; done) | (go_simp; rfl)); intro gb421 hg w14 hbox hb; have n0_ := Aside0.mk (blk_below (g := gb419) (o := .cells #[.int .i64 a0_0, .int .i64 a0_1, .slice (some ad420) l0_2.length c0_2] 24 (0, 0)) (bK) hb); have n1_ := Aside0.mk (below_step (bB) hb); have n2_ := Aside0.mk (hbox); have n3_ := Aside0.mk ((by rw [hg]; exact (below_size (bB)) : w.heap.size ≤ gb421)); have n4_ := Aside0.mk ((by rw [hg]; exact (below_size (bB)) : w.heap.size ≤ gb421)); have n5_ := Aside0.mk ((by rw [hg]; exact Nat.ne_of_lt (blk_lt (g := gb419) (o := .cells #[.int .i64 a0_0, .int .i64 a0_1, .slice (some ad420) l0_2.length c0_2] 24 (0, 0)) (bK)) : gb419 ≠ gb421)); have n6_ := Aside0.mk ((by rw [hg]; exact Nat.ne_of_gt (blk_lt (g := gb419) (o := .cells #[.int .i64 a0_0, .int .i64 a0_1, .slice (some ad420) l0_2.length c0_2] 24 (0, 0)) (bK)) : gb421 ≠ gb419)); clear BK419; clear HB; have BK419 := n0_; have HB := n1_; have BK421 := n2_; have GW421 := n3_; have GE421 := n4_; have NB419_421 := n5_; have NB421_419 := n6_; clear n0_ n1_ n2_ n3_ n4_ n5_ n6_; clear hb hbox hg; have hnb15 := NB421_419.out; have hnc15 := NB419_421.out; have hcz16_0 : w14.cell? ⟨gb421, 0, none⟩ = some (.int .i64 0) := (blk_cell BK421.out 0).trans rfl; have hcz16_1 : w14.cell? ⟨gb421, 1, none⟩ = some (.int .i64 0) := (blk_cell BK421.out 1).trans rfl; have hcz16_2 : w14.cell? ⟨gb421, 2, none⟩ = some (.slice none 0 0) := (blk_cell BK421.out 2).trans rfl; have hfz16_0 := blk_frozen BK421.out 0; have hfz16_1 := blk_frozen BK421.out 1; have hfz16_2 := blk_frozen BK421.out 2) | ((with_reducible refine gate_callee (f := 34) rfl ?_); refine goesL_ (some 16) rfl rfl Try.func34 (by kernel_rfl) rfl #[.agg #[.int .i64 ((rd_T24 l0_2 x11_1).f0), .int .i64 ((rd_T24 l0_2 x11_1).f1), .slice A420_2 ((rd_T24 l0_2 x11_1).f2).length c420_2]] rfl (by (try simp only [List.map_toArray, List.map_cons, List.map_nil]); first | done | rfl | (simp only [List.length_drop, List.length_take]; rfl) | (simp only [Int.ofNat_lt, Int.ofNat_le]; rfl)) ?_; (with_reducible refine (ih k1 (by have := HK1.out; omega) ((rd_T24 l0_2 x11_1).f0) ((rd_T24 l0_2 x11_1).f1) _ _ ((rd_T24 l0_2 x11_1).f2) t422 _ ?side1 ?side2 A7.out).mono ?_); (case side1 => exact Kd.C_below HR420_2.out (bB)); (case side2 => exact HC420_2.out); rintro e w17 ⟨rfl, hb⟩; refine ⟨_, rfl, ?_⟩; have n0_ := Aside0.mk (blk_below (g := gb419) (o := .cells #[.int .i64 a0_0, .int .i64 a0_1, .slice (some ad420) l0_2.length c0_2] 24 (0, 0)) (by (with_reducible repeat (first | refine blk_drewN ?_ _ | refine blk_drew ?_ | refine blk_alloc ?_ _)); refine blk_far ?_ NB419_421.out _; (with_reducible repeat (first | refine blk_drewN ?_ _ | refine blk_drew ?_ | refine blk_alloc ?_ _)); refine blk_far ?_ NB419_421.out _; (with_reducible repeat (first | refine blk_drewN ?_ _ | refine blk_drew ?_ | refine blk_alloc ?_ _)); refine blk_far ?_ NB419_421.out _; (with_reducible repeat (first | refine blk_drewN ?_ _ | refine blk_drew ?_ | refine blk_alloc ?_ _)); exact BK419.out) hb); have n1_ := Aside0.mk (blk_below (g := gb421) (o := .cells #[.int .i64 ((rd_T24 l0_2 x11_1).f0), .int .i64 ((rd_T24 l0_2 x11_1).f1), .slice A420_2 ((rd_T24 l0_2 x11_1).f2).length c420_2] 24 (0, 0)) (by (with_reducible repeat (first | refine blk_drewN ?_ _ | refine blk_drew ?_ | refine blk_alloc ?_ _)); refine blk_put (cs := #[.int .i64 ((rd_T24 l0_2 x11_1).f0), .int .i64 ((rd_T24 l0_2 x11_1).f1), .slice none 0 0]) ?_ 2 _ rfl; (with_reducible repeat (first | refine blk_drewN ?_ _ | refine blk_drew ?_ | refine blk_alloc ?_ _)); refine blk_put (cs := #[.int .i64 ((rd_T24 l0_2 x11_1).f0), .int .i64 0, .slice none 0 0]) ?_ 1 _ rfl; (with_reducible repeat (first | refine blk_drewN ?_ _ | refine blk_drew ?_ | refine blk_alloc ?_ _)); refine blk_put (cs := #[.int .i64 0, .int .i64 0, .slice none 0 0]) ?_ 0 _ rfl; (with_reducible repeat (first | refine blk_drewN ?_ _ | refine blk_drew ?_ | refine blk_alloc ?_ _)); exact BK421.out) hb); have n2_ := Aside0.mk (below_step (bB) hb); clear BK419; clear BK421; clear HB; have BK419 := n0_; have BK421 := n1_; have HB := n2_; clear n0_ n1_ n2_; (try clear hb); (try clear hb2); (try clear hk); (try clear hi)))
        (first | go_roundg k1 | ((simp only [add_plain] at *); go_roundg k1))
        case measure => have := HK1.out; omega
        case rel => exact ⟨(t422), (t422), (wrap64 (x11_1 + 1)), (by first | rfl | (simp; done) | (simp [*]; done)), (by first | rfl | (simp; done) | (simp [*]; done)), (by first | rfl | (simp; done) | (simp [*]; done)), H', ⟨by have := HK1.out; omega⟩, ⟨bK⟩, ⟨bB⟩⟩
      ·replace c8 := Bool.eq_false_iff.mpr c8
       subst c8
       have H1 : (if x4_1 = true then (semigroupref04_Nullable.l0 k1 false true l0_2 (l0_2.length : Int) (wrap64 (x11_1 + 1)) a0_0 a0_1 l0_2) else (semigroupref04_Nullable.l0 k1 false t422 l0_2 (l0_2.length : Int) (wrap64 (x11_1 + 1)) a0_0 a0_1 l0_2)) = some r := by rw [if_neg (show ¬ (false = true) by decide)] at H; exact H
       clear H
       have H := H1
       clear H1
       by_cases c18 : x4_1 = true
       ·subst c18
        have H1 : (semigroupref04_Nullable.l0 k1 false true l0_2 (l0_2.length : Int) (wrap64 (x11_1 + 1)) a0_0 a0_1 l0_2) = some r := by rw [if_pos rfl] at H; exact H
        clear H
        have H := H1
        clear H1
        have H' := Aside0.mk H
        clear H
        have p420 : 0 ≤ (x11_1 : Int) := of_decide_eq_true (by first | (with_reducible assumption) | assumption)
        have q420 : x11_1 < (l0_2.length : Int) := of_decide_eq_true (by first | (with_reducible assumption) | assumption)
        obtain ⟨ad420, A420_2, c420_2, e420, hx420_0, hx420_1, hx420_2, hl420_2, hi420_2⟩ := at_T24 HR0_2.out x11_1 p420 q420
        cases e420
        replace hx420_0 := (HB.out.cell (World.block_lt_of_cell? w _ hx420_0)).trans hx420_0
        replace hx420_1 := (HB.out.cell (World.block_lt_of_cell? w _ hx420_1)).trans hx420_1
        replace hx420_2 := (HB.out.cell (World.block_lt_of_cell? w _ hx420_2)).trans hx420_2
        have HR420_2 := Aside0.mk hi420_2
        have HC420_2 := Aside0.mk hl420_2
        clear hi420_2 hl420_2
        replace p420 := eq_true p420
        replace q420 := eq_true q420
        go_wp2_with (first | ((with_reducible refine gate_dst (N := 6) rfl ?_); refine box_event ?hg (N := 6) ?hd (cs := #[.int .i64 0, .int .i64 0, .slice none 0 0]) (t := 24) ?hr ?_; (case hd => rfl); (case hg => rfl); (case hr => first | (go_simp; done) | (go_simp; rfl)); intro gb421 hg w19 hbox hb; have n0_ := Aside0.mk (blk_below (g := gb419) (o := .cells #[.int .i64 a0_0, .int .i64 a0_1, .slice (some ad420) l0_2.length c0_2] 24 (0, 0)) (bK) hb); have n1_ := Aside0.mk (below_step (bB) hb); have n2_ := Aside0.mk (hbox); have n3_ := Aside0.mk ((by rw [hg]; exact (below_size (bB)) : w.heap.size ≤ gb421)); have n4_ := Aside0.mk ((by rw [hg]; exact (below_size (bB)) : w.heap.size ≤ gb421)); have n5_ := Aside0.mk ((by rw [hg]; exact Nat.ne_of_lt (blk_lt (g := gb419) (o := .cells #[.int .i64 a0_0, .int .i64 a0_1, .slice (some ad420) l0_2.length c0_2] 24 (0, 0)) (bK)) : gb419 ≠ gb421)); have n6_ := Aside0.mk ((by rw [hg]; exact Nat.ne_of_gt (blk_lt (g := gb419) (o := .cells #[.int .i64 a0_0, .int .i64 a0_1, .slice (some ad420) l0_2.length c0_2] 24 (0, 0)) (bK)) : gb421 ≠ gb419)); clear BK419; clear HB; have BK419 := n0_; have HB := n1_; have BK421 := n2_; have GW421 := n3_; have GE421 := n4_; have NB419_421 := n5_; have NB421_419 := n6_; clear n0_ n1_ n2_ n3_ n4_ n5_ n6_; clear hb hbox hg; have hnb20 := NB421_419.out; have hnc20 := NB419_421.out; have hcz21_0 : w19.cell? ⟨gb421, 0, none⟩ = some (.int .i64 0) := (blk_cell BK421.out 0).trans rfl; have hcz21_1 : w19.cell? ⟨gb421, 1, none⟩ = some (.int .i64 0) := (blk_cell BK421.out 1).trans rfl; have hcz21_2 : w19.cell? ⟨gb421, 2, none⟩ = some (.slice none 0 0) := (blk_cell BK421.out 2).trans rfl; have hfz21_0 := blk_frozen BK421.out 0; have hfz21_1 := blk_frozen BK421.out 1; have hfz21_2 := blk_frozen BK421.out 2) | ((with_reducible refine gate_callee (f := 34) rfl ?_); refine goesL_ (some 16) rfl rfl Try.func34 (by kernel_rfl) rfl #[.agg #[.int .i64 ((rd_T24 l0_2 x11_1).f0), .int .i64 ((rd_T24 l0_2 x11_1).f1), .slice A420_2 ((rd_T24 l0_2 x11_1).f2).length c420_2]] rfl (by (try simp only [List.map_toArray, List.map_cons, List.map_nil]); first | done | rfl | (simp only [List.length_drop, List.length_take]; rfl) | (simp only [Int.ofNat_lt, Int.ofNat_le]; rfl)) ?_; (with_reducible refine (ih k1 (by have := HK1.out; omega) ((rd_T24 l0_2 x11_1).f0) ((rd_T24 l0_2 x11_1).f1) _ _ ((rd_T24 l0_2 x11_1).f2) t422 _ ?side1 ?side2 A7.out).mono ?_); (case side1 => exact Kd.C_below HR420_2.out (bB)); (case side2 => exact HC420_2.out); rintro e w22 ⟨rfl, hb⟩; refine ⟨_, rfl, ?_⟩; have n0_ := Aside0.mk (blk_below (g := gb419) (o := .cells #[.int .i64 a0_0, .int .i64 a0_1, .slice (some ad420) l0_2.length c0_2] 24 (0, 0)) (by (with_reducible repeat (first | refine blk_drewN ?_ _ | refine blk_drew ?_ | refine blk_alloc ?_ _)); refine blk_far ?_ NB419_421.out _; (with_reducible repeat (first | refine blk_drewN ?_ _ | refine blk_drew ?_ | refine blk_alloc ?_ _)); refine blk_far ?_ NB419_421.out _; (with_reducible repeat (first | refine blk_drewN ?_ _ | refine blk_drew ?_ | refine blk_alloc ?_ _)); refine blk_far ?_ NB419_421.out _; (with_reducible repeat (first | refine blk_drewN ?_ _ | refine blk_drew ?_ | refine blk_alloc ?_ _)); exact BK419.out) hb); have n1_ := Aside0.mk (blk_below (g := gb421) (o := .cells #[.int .i64 ((rd_T24 l0_2 x11_1).f0), .int .i64 ((rd_T24 l0_2 x11_1).f1), .slice A420_2 ((rd_T24 l0_2 x11_1).f2).length c420_2] 24 (0, 0)) (by (with_reducible repeat (first | refine blk_drewN ?_ _ | refine blk_drew ?_ | refine blk_alloc ?_ _)); refine blk_put (cs := #[.int .i64 ((rd_T24 l0_2 x11_1).f0), .int .i64 ((rd_T24 l0_2 x11_1).f1), .slice none 0 0]) ?_ 2 _ rfl; (with_reducible repeat (first | refine blk_drewN ?_ _ | refine blk_drew ?_ | refine blk_alloc ?_ _)); refine blk_put (cs := #[.int .i64 ((rd_T24 l0_2 x11_1).f0), .int .i64 0, .slice none 0 0]) ?_ 1 _ rfl; (with_reducible repeat (first | refine blk_drewN ?_ _ | refine blk_drew ?_ | refine blk_alloc ?_ _)); refine blk_put (cs := #[.int .i64 0, .int .i64 0, .slice none 0 0]) ?_ 0 _ rfl; (with_reducible repeat (first | refine blk_drewN ?_ _ | refine blk_drew ?_ | refine blk_alloc ?_ _)); exact BK421.out) hb); have n2_ := Aside0.mk (below_step (bB) hb); clear BK419; clear BK421; clear HB; have BK419 := n0_; have BK421 := n1_; have HB := n2_; clear n0_ n1_ n2_; (try clear hb); (try clear hb2); (try clear hk); (try clear hi)))
        (first | go_roundg k1 | ((simp only [add_plain] at *); go_roundg k1))
        case measure => have := HK1.out; omega
        case rel => exact ⟨(false), (true), (wrap64 (x11_1 + 1)), (by first | rfl | (simp; done) | (simp [*]; done)), (by first | rfl | (simp; done) | (simp [*]; done)), (by first | rfl | (simp; done) | (simp [*]; done)), H', ⟨by have := HK1.out; omega⟩, ⟨bK⟩, ⟨bB⟩⟩
       ·replace c18 := Bool.eq_false_iff.mpr c18
        subst c18
        have H1 : (semigroupref04_Nullable.l0 k1 false t422 l0_2 (l0_2.length : Int) (wrap64 (x11_1 + 1)) a0_0 a0_1 l0_2) = some r := by rw [if_neg (show ¬ (false = true) by decide)] at H; exact H
        clear H
        have H := H1
        clear H1
        have H' := Aside0.mk H
        clear H
        have p420 : 0 ≤ (x11_1 : Int) := of_decide_eq_true (by first | (with_reducible assumption) | assumption)
        have q420 : x11_1 < (l0_2.length : Int) := of_decide_eq_true (by first | (with_reducible assumption) | assumption)
        obtain ⟨ad420, A420_2, c420_2, e420, hx420_0, hx420_1, hx420_2, hl420_2, hi420_2⟩ := at_T24 HR0_2.out x11_1 p420 q420
        cases e420
        replace hx420_0 := (HB.out.cell (World.block_lt_of_cell? w _ hx420_0)).trans hx420_0
        replace hx420_1 := (HB.out.cell (World.block_lt_of_cell? w _ hx420_1)).trans hx420_1
        replace hx420_2 := (HB.out.cell (World.block_lt_of_cell? w _ hx420_2)).trans hx420_2
        have HR420_2 := Aside0.mk hi420_2
        have HC420_2 := Aside0.mk hl420_2
        clear hi420_2 hl420_2
        replace p420 := eq_true p420
        replace q420 := eq_true q420
        go_wp2_with (first | ((with_reducible refine gate_dst (N := 6) rfl ?_); refine box_event ?hg (N := 6) ?hd (cs := #[.int .i64 0, .int .i64 0, .slice none 0 0]) (t := 24) ?hr ?_; (case hd => rfl); (case hg => rfl); (case hr => first | (go_simp; done) | (go_simp; rfl)); intro gb421 hg w23 hbox hb; have n0_ := Aside0.mk (blk_below (g := gb419) (o := .cells #[.int .i64 a0_0, .int .i64 a0_1, .slice (some ad420) l0_2.length c0_2] 24 (0, 0)) (bK) hb); have n1_ := Aside0.mk (below_step (bB) hb); have n2_ := Aside0.mk (hbox); have n3_ := Aside0.mk ((by rw [hg]; exact (below_size (bB)) : w.heap.size ≤ gb421)); have n4_ := Aside0.mk ((by rw [hg]; exact (below_size (bB)) : w.heap.size ≤ gb421)); have n5_ := Aside0.mk ((by rw [hg]; exact Nat.ne_of_lt (blk_lt (g := gb419) (o := .cells #[.int .i64 a0_0, .int .i64 a0_1, .slice (some ad420) l0_2.length c0_2] 24 (0, 0)) (bK)) : gb419 ≠ gb421)); have n6_ := Aside0.mk ((by rw [hg]; exact Nat.ne_of_gt (blk_lt (g := gb419) (o := .cells #[.int .i64 a0_0, .int .i64 a0_1, .slice (some ad420) l0_2.length c0_2] 24 (0, 0)) (bK)) : gb421 ≠ gb419)); clear BK419; clear HB; have BK419 := n0_; have HB := n1_; have BK421 := n2_; have GW421 := n3_; have GE421 := n4_; have NB419_421 := n5_; have NB421_419 := n6_; clear n0_ n1_ n2_ n3_ n4_ n5_ n6_; clear hb hbox hg; have hnb24 := NB421_419.out; have hnc24 := NB419_421.out; have hcz25_0 : w23.cell? ⟨gb421, 0, none⟩ = some (.int .i64 0) := (blk_cell BK421.out 0).trans rfl; have hcz25_1 : w23.cell? ⟨gb421, 1, none⟩ = some (.int .i64 0) := (blk_cell BK421.out 1).trans rfl; have hcz25_2 : w23.cell? ⟨gb421, 2, none⟩ = some (.slice none 0 0) := (blk_cell BK421.out 2).trans rfl; have hfz25_0 := blk_frozen BK421.out 0; have hfz25_1 := blk_frozen BK421.out 1; have hfz25_2 := blk_frozen BK421.out 2) | ((with_reducible refine gate_callee (f := 34) rfl ?_); refine goesL_ (some 16) rfl rfl Try.func34 (by kernel_rfl) rfl #[.agg #[.int .i64 ((rd_T24 l0_2 x11_1).f0), .int .i64 ((rd_T24 l0_2 x11_1).f1), .slice A420_2 ((rd_T24 l0_2 x11_1).f2).length c420_2]] rfl (by (try simp only [List.map_toArray, List.map_cons, List.map_nil]); first | done | rfl | (simp only [List.length_drop, List.length_take]; rfl) | (simp only [Int.ofNat_lt, Int.ofNat_le]; rfl)) ?_; (with_reducible refine (ih k1 (by have := HK1.out; omega) ((rd_T24 l0_2 x11_1).f0) ((rd_T24 l0_2 x11_1).f1) _ _ ((rd_T24 l0_2 x11_1).f2) t422 _ ?side1 ?side2 A7.out).mono ?_); (case side1 => exact Kd.C_below HR420_2.out (bB)); (case side2 => exact HC420_2.out); rintro e w26 ⟨rfl, hb⟩; refine ⟨_, rfl, ?_⟩; have n0_ := Aside0.mk (blk_below (g := gb419) (o := .cells #[.int .i64 a0_0, .int .i64 a0_1, .slice (some ad420) l0_2.length c0_2] 24 (0, 0)) (by (with_reducible repeat (first | refine blk_drewN ?_ _ | refine blk_drew ?_ | refine blk_alloc ?_ _)); refine blk_far ?_ NB419_421.out _; (with_reducible repeat (first | refine blk_drewN ?_ _ | refine blk_drew ?_ | refine blk_alloc ?_ _)); refine blk_far ?_ NB419_421.out _; (with_reducible repeat (first | refine blk_drewN ?_ _ | refine blk_drew ?_ | refine blk_alloc ?_ _)); refine blk_far ?_ NB419_421.out _; (with_reducible repeat (first | refine blk_drewN ?_ _ | refine blk_drew ?_ | refine blk_alloc ?_ _)); exact BK419.out) hb); have n1_ := Aside0.mk (blk_below (g := gb421) (o := .cells #[.int .i64 ((rd_T24 l0_2 x11_1).f0), .int .i64 ((rd_T24 l0_2 x11_1).f1), .slice A420_2 ((rd_T24 l0_2 x11_1).f2).length c420_2] 24 (0, 0)) (by (with_reducible repeat (first | refine blk_drewN ?_ _ | refine blk_drew ?_ | refine blk_alloc ?_ _)); refine blk_put (cs := #[.int .i64 ((rd_T24 l0_2 x11_1).f0), .int .i64 ((rd_T24 l0_2 x11_1).f1), .slice none 0 0]) ?_ 2 _ rfl; (with_reducible repeat (first | refine blk_drewN ?_ _ | refine blk_drew ?_ | refine blk_alloc ?_ _)); refine blk_put (cs := #[.int .i64 ((rd_T24 l0_2 x11_1).f0), .int .i64 0, .slice none 0 0]) ?_ 1 _ rfl; (with_reducible repeat (first | refine blk_drewN ?_ _ | refine blk_drew ?_ | refine blk_alloc ?_ _)); refine blk_put (cs := #[.int .i64 0, .int .i64 0, .slice none 0 0]) ?_ 0 _ rfl; (with_reducible repeat (first | refine blk_drewN ?_ _ | refine blk_drew ?_ | refine blk_alloc ?_ _)); exact BK421.out) hb); have n2_ := Aside0.mk (below_step (bB) hb); clear BK419; clear BK421; clear HB; have BK419 := n0_; have BK421 := n1_; have HB := n2_; clear n0_ n1_ n2_; (try clear hb); (try clear hb2); (try clear hk); (try clear hi)))
        (first | go_roundg k1 | ((simp only [add_plain] at *); go_roundg k1))
        case measure => have := HK1.out; omega
        case rel => exact ⟨(false), (t422), (wrap64 (x11_1 + 1)), (by first | rfl | (simp; done) | (simp [*]; done)), (by first | rfl | (simp; done) | (simp [*]; done)), (by first | rfl | (simp; done) | (simp [*]; done)), H', ⟨by have := HK1.out; omega⟩, ⟨bK⟩, ⟨bB⟩⟩
     ·rw [if_neg c6] at H
      exact absurd H (by simp)
    ·rw [if_neg c5] at H
     exact absurd H (by simp)
   ·rw [if_neg c4] at H
    have c4b0 : decide (x11_1 < (l0_2.length : Int)) = false := decide_eq_false c4
    clear c4
    have HC27 := Aside0.mk H
    clear H
    have hcz28_0 : wr.cell? ⟨gb419, 0, none⟩ = some (.int .i64 a0_0) := (blk_cell BK419.out 0).trans rfl
    have hcz28_1 : wr.cell? ⟨gb419, 1, none⟩ = some (.int .i64 a0_1) := (blk_cell BK419.out 1).trans rfl
    have hcz28_2 : wr.cell? ⟨gb419, 2, none⟩ = some (.slice A0_2 l0_2.length c0_2) := (blk_cell BK419.out 2).trans rfl
    have hfz28_0 := blk_frozen BK419.out 0
    have hfz28_1 := blk_frozen BK419.out 1
    have hfz28_2 := blk_frozen BK419.out 2
    go_upto_if 28 with (fail)
    go_cut [28] (fun v28 wc => ∃ (kq : Nat) (x28_26 : Bool), v28 = .bool x28_26 ∧ Aside0 (semigroupref04_Nullable.j1 kq x3_1 x4_1 a0_0 x28_26 = some r) ∧ Aside0 (kq ≤ k1) ∧ Aside0 (wc.heap[gb419]? = some (.cells #[.int .i64 a0_0, .int .i64 a0_1, (.slice A0_2 l0_2.length c0_2)] 24 (0, 0))) ∧ Aside0 (Below w.heap.size w wc))
    case first =>
     have H := HC27.out
     clear HC27
     by_cases c29 : a0_0 = 2
     ·rw [if_pos c29] at H
      have c29b0 : (a0_0 == 2) = true := beq_iff_eq.mpr c29
      have c29b1 : (a0_0 != 2) = false := bne_eq_false_iff_eq.mpr c29
      clear c29
      (first | rw [c29b0] | (simp only [i64_w, i32_w]; rw [c29b0]) | skip)
      have H' := Aside0.mk H
      clear H
      go_wp2
      go_meet
      case rel => exact ⟨_, ((a0_0 == 2)), (by first | rfl | (simp; done) | (simp [*]; done)), H', ⟨by have := HK1.out; first | omega | exact Nat.le_refl _⟩, ⟨bK⟩, ⟨bB⟩⟩
     ·rw [if_neg c29] at H
      have c29b0 : (a0_0 == 2) = false := beq_eq_false_iff_ne.mpr c29
      have c29b1 : (a0_0 != 2) = true := bne_iff_ne.mpr c29
      (first | rw [c29b0] | (simp only [i64_w, i32_w]; rw [c29b0]) | skip)
      have H' := Aside0.mk H
      clear H
      go_wp2
      go_meet
      case rel => exact ⟨_, ((a0_0 == 7)), (by first | rfl | (simp; done) | (simp [*]; done)), H', ⟨by have := HK1.out; first | omega | exact Nat.le_refl _⟩, ⟨bK⟩, ⟨bB⟩⟩
    case rest =>
     clear HC27
     try clear c1
     try clear c2
     try clear p2
     try clear c3
     try clear c4
     try clear c4b0
     try clear p4
     try clear q4
     try clear hx4
     try clear c5
     try clear c5b0
     try clear c6
     try clear c6b0
     try clear p6
     try clear c8
     try clear c9
     try clear c11
     try clear c15
     try clear c18
     try clear c20
     try clear c24
     try clear c29
     try clear c29b0
     try clear c29b1
     try clear hcz12_0
     try clear hcz12_1
     try clear hcz12_2
     try clear hcz16_0
     try clear hcz16_1
     try clear hcz16_2
     try clear hcz21_0
     try clear hcz21_1
     try clear hcz21_2
     try clear hcz25_0
     try clear hcz25_1
     try clear hcz25_2
     try clear hcz28_0
     try clear hcz28_1
     try clear hcz28_2
     try clear hcz3_0
     try clear hcz3_1
     try clear hcz3_2
     try clear hfz12_0
     try clear hfz12_1
     try clear hfz12_2
     try clear hfz16_0
     try clear hfz16_1
     try clear hfz16_2
     try clear hfz21_0
     try clear hfz21_1
     try clear hfz21_2
     try clear hfz25_0
     try clear hfz25_1
     try clear hfz25_2
     try clear hfz28_0
     try clear hfz28_1
     try clear hfz28_2
     try clear hfz3_0
     try clear hfz3_1
     try clear hfz3_2
     try clear hx420_0
     try clear hx420_1
     try clear hx420_2
     try clear p2
     try clear p420
     try clear q420
     obtain ⟨kq, x28_26, rfl, HA, HJ26, BK419, HB⟩ := hcut
     cases kq with
     | zero => exact absurd HA.out (by simp [semigroupref04_Nullable.j1])
     | succ kj26 =>
      have H := HA.out
      clear HA
      simp only [semigroupref04_Nullable.j1] at H
      by_cases c30 : x28_26 = true
      ·subst c30
       have H1 : (some true) = some r := by rw [if_pos rfl] at H; exact H
       clear H
       have H := H1
       clear H1
       obtain rfl := Option.some.inj H
       go_wp2
       go_ret
       exact ⟨by first | rfl | (simp [errW_none, errW_some] <;> rfl) | (simp [*, errW_none, errW_some] <;> rfl), bB⟩
      ·replace c30 := Bool.eq_false_iff.mpr c30
       subst c30
       have H1 : (if a0_0 = 4 then (some x4_1) else (if a0_0 = 5 then (semigroupref04_Nullable.j2 kj26 x3_1 x4_1 a0_0 (a0_0 == 5)) else (semigroupref04_Nullable.j2 kj26 x3_1 x4_1 a0_0 (a0_0 == 6)))) = some r := by rw [if_neg (show ¬ (false = true) by decide)] at H; exact H
       clear H
       have H := H1
       clear H1
       by_cases c31 : a0_0 = 4
       ·rw [if_pos c31] at H
        have c31b0 : (a0_0 == 4) = true := beq_iff_eq.mpr c31
        have c31b1 : (a0_0 != 4) = false := bne_eq_false_iff_eq.mpr c31
        clear c31
        obtain rfl := Option.some.inj H
        go_wp2
        go_ret
        exact ⟨by first | rfl | (simp [errW_none, errW_some] <;> rfl) | (simp [*, errW_none, errW_some] <;> rfl), bB⟩
       ·rw [if_neg c31] at H
        have c31b0 : (a0_0 == 4) = false := beq_eq_false_iff_ne.mpr c31
        have c31b1 : (a0_0 != 4) = true := bne_iff_ne.mpr c31
        have HC32 := Aside0.mk H
        clear H
        go_upto_if 34 with (fail)
        go_cut [34] (fun v34 wc => ∃ (kq : Nat) (x34_31 : Bool), v34 = .bool x34_31 ∧ Aside0 (semigroupref04_Nullable.j2 kq x3_1 x4_1 a0_0 x34_31 = some r) ∧ Aside0 (kq ≤ kj26) ∧ Aside0 (wc.heap[gb419]? = some (.cells #[.int .i64 a0_0, .int .i64 a0_1, (.slice A0_2 l0_2.length c0_2)] 24 (0, 0))) ∧ Aside0 (Below w.heap.size w wc))
        case first =>
         have H := HC32.out
         clear HC32
         by_cases c33 : a0_0 = 5
         ·rw [if_pos c33] at H
          have c33b0 : (a0_0 == 5) = true := beq_iff_eq.mpr c33
          have c33b1 : (a0_0 != 5) = false := bne_eq_false_iff_eq.mpr c33
          clear c33
          (first | rw [c33b0] | (simp only [i64_w, i32_w]; rw [c33b0]) | skip)
          have H' := Aside0.mk H
          clear H
          go_wp2
          go_meet
          case rel => exact ⟨_, ((a0_0 == 5)), (by first | rfl | (simp; done) | (simp [*]; done)), H', ⟨by have := HK1.out; have := HJ26.out; first | omega | exact Nat.le_refl _⟩, ⟨bK⟩, ⟨bB⟩⟩
         ·rw [if_neg c33] at H
          have c33b0 : (a0_0 == 5) = false := beq_eq_false_iff_ne.mpr c33
          have c33b1 : (a0_0 != 5) = true := bne_iff_ne.mpr c33
          (first | rw [c33b0] | (simp only [i64_w, i32_w]; rw [c33b0]) | skip)
          have H' := Aside0.mk H
          clear H
          go_wp2
          go_meet
          case rel => exact ⟨_, ((a0_0 == 6)), (by first | rfl | (simp; done) | (simp [*]; done)), H', ⟨by have := HK1.out; have := HJ26.out; first | omega | exact Nat.le_refl _⟩, ⟨bK⟩, ⟨bB⟩⟩
        case rest =>
         clear HC32
         try clear c1
         try clear c2
         try clear p2
         try clear c3
         try clear c4
         try clear c4b0
         try clear p4
         try clear q4
         try clear hx4
         try clear c5
         try clear c5b0
         try clear c6
         try clear c6b0
         try clear p6
         try clear c8
         try clear c9
         try clear c11
         try clear c15
         try clear c18
         try clear c20
         try clear c24
         try clear c29
         try clear c29b0
         try clear c29b1
         try clear c30
         try clear c31
         try clear c31b0
         try clear c31b1
         try clear c33
         try clear c33b0
         try clear c33b1
         try clear hcz12_0
         try clear hcz12_1
         try clear hcz12_2
         try clear hcz16_0
         try clear hcz16_1
         try clear hcz16_2
         try clear hcz21_0
         try clear hcz21_1
         try clear hcz21_2
         try clear hcz25_0
         try clear hcz25_1
         try clear hcz25_2
         try clear hcz28_0
         try clear hcz28_1
         try clear hcz28_2
         try clear hcz3_0
         try clear hcz3_1
         try clear hcz3_2
         try clear hfz12_0
         try clear hfz12_1
         try clear hfz12_2
         try clear hfz16_0
         try clear hfz16_1
         try clear hfz16_2
         try clear hfz21_0
         try clear hfz21_1
         try clear hfz21_2
         try clear hfz25_0
         try clear hfz25_1
         try clear hfz25_2
         try clear hfz28_0
         try clear hfz28_1
         try clear hfz28_2
         try clear hfz3_0
         try clear hfz3_1
         try clear hfz3_2
         try clear hx420_0
         try clear hx420_1
         try clear hx420_2
         try clear p2
         try clear p4
         try clear p420
         try clear p6
         try clear q4
         try clear q420
         obtain ⟨kq, x34_31, rfl, HA, HJ31, BK419, HB⟩ := hcut
         cases kq with
         | zero => exact absurd HA.out (by simp [semigroupref04_Nullable.j2])
         | succ kj31 =>
          have H := HA.out
          clear HA
          simp only [semigroupref04_Nullable.j2] at H
          by_cases c34 : x34_31 = true
          ·subst c34
           have H1 : (some x3_1) = some r := by rw [if_pos rfl] at H; exact H
           clear H
           have H := H1
           clear H1
           obtain rfl := Option.some.inj H
           go_wp2
           go_ret
           exact ⟨by first | rfl | (simp [errW_none, errW_some] <;> rfl) | (simp [*, errW_none, errW_some] <;> rfl), bB⟩
          ·replace c34 := Bool.eq_false_iff.mpr c34
           subst c34
           have H1 : (if a0_0 = 8 then (some (!x4_1)) else (some false)) = some r := by rw [if_neg (show ¬ (false = true) by decide)] at H; exact H
           clear H
           have H := H1
           clear H1
           by_cases c35 : a0_0 = 8
           ·rw [if_pos c35] at H
            have c35b0 : (a0_0 == 8) = true := beq_iff_eq.mpr c35
            have c35b1 : (a0_0 != 8) = false := bne_eq_false_iff_eq.mpr c35
            clear c35
            obtain rfl := Option.some.inj H
            go_wp2
            go_ret
            exact ⟨by first | rfl | (simp [errW_none, errW_some] <;> rfl) | (simp [*, errW_none, errW_some] <;> rfl), bB⟩
           ·rw [if_neg c35] at H
            have c35b0 : (a0_0 == 8) = false := beq_eq_false_iff_ne.mpr c35
            have c35b1 : (a0_0 != 8) = true := bne_iff_ne.mpr c35
            obtain rfl := Option.some.inj H
            go_wp2
            go_ret
            exact ⟨by first | rfl | (simp [errW_none, errW_some] <;> rfl) | (simp [*, errW_none, errW_some] <;> rfl), bB⟩
end Go.Proofs.Ytjofkebiacaciaa.PAll
end
section
namespace Go.Proofs.Ytjofkebiacaciaa.T04
open Go Go.RowKit Go.Proofs.Ytjofkebiacaciaa.PAll Go.Proofs.YtjofkebiacaciaaW.PrintWords Go.Proofs.YtjofkebiacaciaaW.PrintLast Go.Proofs.YtjofkebiacaciaaW.PrintMore Go.Proofs.Ytjofkebiacaciaa.AllRead24
set_option linter.all false
def opKids (o : Int) (n : Nat) : Bool :=
 if o = 1 ∨ o = 2 ∨ o = 3 then decide (n = 0) else if o = 7 ∨ o = 8 then decide (n = 1) else if o = 4 ∨ o = 5 ∨ o = 6 then decide (2 ≤ n) else false
def letOK (o a L : Int) : Bool := if o = 3 then decide (0 ≤ a ∧ a < L) else decide (a = 0)
mutual
def shp (L : Int) : S24 → Bool
 | ⟨o, a, l⟩ => opKids o l.length && (letOK o a L && shps L l)
def shps (L : Int) : List S24 → Bool
 | [] => true
 | x :: r => shp L x && shps L r
end
theorem shp_mk (L : Int) (e : S24) : shp L e = (opKids e.f0 e.f2.length && (letOK e.f0 e.f1 L && shps L e.f2)) := by cases e; rw [shp]
theorem shps_mem {L : Int} {l : List S24} (h : shps L l = true) {x : S24} (hx : x ∈ l) : shp L x = true := by
 induction l with
 | nil => cases hx
 | cons y r ih =>
  simp [shps] at h
  rcases List.mem_cons.mp hx with rfl | hx
  ·exact h.1
  ·exact ih h.2 hx
theorem Ev.if {α : Type} {c : Prop} [Decidable c] {a b : Nat → Option α} {x y : α} (h1 : c → Ev a x) (h2 : ¬ c → Ev b y) : Ev (fun k => if c then a k else b k) (if c then x else y) := by
 by_cases h : c
 ·simp only [if_pos h]; exact h1 h
 ·simp only [if_neg h]; exact h2 h
theorem Ev.to {α : Type} {g : Nat → Option α} {x y : α} (h : Ev g x) (e : x = y) : Ev g y := e ▸ h
theorem shaped_prog (L : Int) (e : S24) : WF e → size e ≤ 400 → Ev (fun k => expr_shaped.f k e.f0 e.f1 e.f2 L) (shp L e) := by
 induction e using ind with
 | h e ih =>
 intro hw hs
 have hs' : sizes e.f2 ≤ 399 := by rw [size_mk] at hs; omega
 have hlen : e.f2.length ≤ 399 := Nat.le_trans (length_le_sizes _) hs'
 have loop : ∀ (r pre : List S24), e.f2 = pre ++ r → Ev (fun k => expr_shaped.l0 k L e.f2 (e.f2.length : Int) (pre.length : Int)) (shps L r) := by
  intro r
  induction r with
  | nil =>
   intro pre hp
   exact Ev.step (fun k => by simp only [expr_shaped.l0]; rw [hp, if_neg (not_lt_end pre)]; rfl) (Ev.now _)
  | cons x r ihr =>
   intro pre hp
   have hx : x ∈ e.f2 := by rw [hp]; simp
   have h1 := ih x hx (hw.kid hx) (by have := sizes_mem hx; omega)
   refine Ev.step (f := fun k => (expr_shaped.f k x.f0 x.f1 x.f2 L).bind fun t => (if t = true then (expr_shaped.l0 k L e.f2 (e.f2.length : Int) ((pre ++ [x]).length : Int)) else some false)) (fun k => ?_) (Ev.bind h1 ?_)
   ·simp only [expr_shaped.l0]
    rw [← next_mid (r := r) (x := x) (by rw [← hp]; exact hw.len), hp, if_pos (lt_mid pre x r), if_pos (ge0 _), if_pos (lt_mid pre x r), rd_mid]
   ·refine Ev.to (Ev.if (fun _ => ihr (pre ++ [x]) (by rw [hp]; exact shift_mid pre x r)) (fun _ => Ev.now false)) ?_
    simp [shps]
    try (cases shp L x <;> simp)
 have l0 := loop e.f2 [] rfl
 have j4 : ∀ b, Ev (fun k => expr_shaped.j4 k L b e.f0 e.f1 e.f2) (!b && shps L e.f2) := fun b =>
  Ev.step (f := fun k => if b = true then some false else expr_shaped.l0 k L e.f2 (e.f2.length : Int) 0) (fun k => by simp only [expr_shaped.j4]) (Ev.to (Ev.if (fun _ => Ev.now false) (fun _ => l0)) (by cases b <;> simp))
 have j3 : ∀ b, Ev (fun k => expr_shaped.j3 k L b e.f0 e.f1 e.f2) (!b && (letOK e.f0 e.f1 L && shps L e.f2)) := fun b =>
  Ev.step (fun k => by simp only [expr_shaped.j3]; rfl) (Ev.to (Ev.if (fun _ => Ev.now false) (fun _ => Ev.if (fun _ => Ev.if (fun _ => j4 _) (fun _ => Ev.if (fun _ => j4 _) (fun _ => j4 _))) (fun _ => j4 _))) (by
   unfold letOK
   cases b with
   | true => simp
   | false =>
    by_cases h3 : e.f0 = 3
    ·by_cases h4 : e.f1 < 0
     ·simp [h3, h4]; omega
     ·by_cases h5 : e.f1 ≥ L
      ·simp [h3, h4, h5]; omega
      ·simp [h3, h4, h5]; omega
    ·simp [h3]; by_cases h0 : e.f1 = 0 <;> simp [h0]))
 let J2 (least most : Nat) : Bool := decide (least ≤ e.f2.length ∧ e.f2.length ≤ most) && (letOK e.f0 e.f1 L && shps L e.f2)
 have j2 : ∀ least most : Nat, Ev (fun k => expr_shaped.j2 k L least most e.f0 e.f1 e.f2) (J2 least most) := fun least most =>
  Ev.step (fun k => by simp only [expr_shaped.j2]; rfl) (Ev.to (Ev.if (fun _ => j3 _) (fun _ => j3 _)) (by
   show _ = (decide (least ≤ e.f2.length ∧ e.f2.length ≤ most) && (letOK e.f0 e.f1 L && shps L e.f2))
   by_cases h : (e.f2.length : Int) < least
   ·have : ¬ (least ≤ e.f2.length ∧ e.f2.length ≤ most) := by omega
    simp only [if_pos h, decide_eq_false this]; simp
   ·by_cases h2 : (e.f2.length : Int) > most
    ·have : ¬ (least ≤ e.f2.length ∧ e.f2.length ≤ most) := by omega
     simp only [if_neg h, decide_eq_true h2, decide_eq_false this]; simp
    ·have : (least ≤ e.f2.length ∧ e.f2.length ≤ most) := by omega
     simp only [if_neg h, decide_eq_false h2, decide_eq_true this]; simp))
 have j1 : ∀ b, Ev (fun k => expr_shaped.j1 k L e.f0 b e.f0 e.f1 e.f2) (if b = true then J2 2 400 else if e.f0 = 7 then J2 1 1 else if e.f0 = 8 then J2 1 1 else false) := fun b =>
  Ev.step (fun k => by simp only [expr_shaped.j1]; rfl) (Ev.if (fun _ => j2 2 400) (fun _ => Ev.if (fun _ => j2 1 1) (fun _ => Ev.if (fun _ => j2 1 1) (fun _ => Ev.now false))))
 have j0 : ∀ b, Ev (fun k => expr_shaped.j0 k L 0 0 e.f0 b e.f0 e.f1 e.f2) (if b = true then J2 0 0 else if e.f0 = 4 ∨ e.f0 = 5 ∨ e.f0 = 6 then J2 2 400 else if e.f0 = 7 ∨ e.f0 = 8 then J2 1 1 else false) := fun b =>
  Ev.step (fun k => by simp only [expr_shaped.j0]; rfl) (Ev.to (Ev.if (fun _ => j2 0 0) (fun _ => Ev.if (fun _ => j1 _) (fun _ => Ev.if (fun _ => j1 _) (fun _ => j1 _)))) (by
   cases b with
   | true => simp
   | false =>
    by_cases h4 : e.f0 = 4
    ·simp [h4]
    ·by_cases h5 : e.f0 = 5
     ·simp [h5]
     ·by_cases h6 : e.f0 = 6
      ·simp [h6]
      ·by_cases h7 : e.f0 = 7
       ·simp [h7]
       ·by_cases h8 : e.f0 = 8
        ·simp [h8]
        ·simp [h4, h5, h6, h7, h8]))
 have a0 : J2 0 0 = (decide (e.f2.length = 0) && (letOK e.f0 e.f1 L && shps L e.f2)) := by
  show (decide (0 ≤ e.f2.length ∧ e.f2.length ≤ 0) && _) = _
  rw [show decide (0 ≤ e.f2.length ∧ e.f2.length ≤ 0) = decide (e.f2.length = 0) from by rw [decide_eq_decide]; omega]
 have a1 : J2 1 1 = (decide (e.f2.length = 1) && (letOK e.f0 e.f1 L && shps L e.f2)) := by
  show (decide (1 ≤ e.f2.length ∧ e.f2.length ≤ 1) && _) = _
  rw [show decide (1 ≤ e.f2.length ∧ e.f2.length ≤ 1) = decide (e.f2.length = 1) from by rw [decide_eq_decide]; omega]
 have a2 : J2 2 400 = (decide (2 ≤ e.f2.length) && (letOK e.f0 e.f1 L && shps L e.f2)) := by
  show (decide (2 ≤ e.f2.length ∧ e.f2.length ≤ 400) && _) = _
  rw [show decide (2 ≤ e.f2.length ∧ e.f2.length ≤ 400) = decide (2 ≤ e.f2.length) from by rw [decide_eq_decide]; omega]
 refine Ev.step (fun k => by simp only [expr_shaped.f]; rfl) (Ev.to (Ev.if (fun _ => j0 _) (fun _ => Ev.if (fun _ => j0 _) (fun _ => j0 _))) ?_)
 rw [a0, a1, a2, shp_mk]
 unfold opKids
 generalize (letOK e.f0 e.f1 L && shps L e.f2) = z
 by_cases h1 : e.f0 = 1
 ·simp [h1]
 ·by_cases h2 : e.f0 = 2
  ·simp [h2]
  ·by_cases h3 : e.f0 = 3
   ·simp [h3]
   ·by_cases h4 : e.f0 = 4
    ·simp [h4]
    ·by_cases h5 : e.f0 = 5
     ·simp [h5]
     ·by_cases h6 : e.f0 = 6
      ·simp [h6]
      ·by_cases h7 : e.f0 = 7
       ·simp [h7]
       ·by_cases h8 : e.f0 = 8
        ·simp [h8]
        ·simp [h1, h2, h3, h4, h5, h6, h7, h8]
theorem shaped_ref (L : Int) (e : S24) : WF e → Ev (fun k => semigroupref04_shaped.f k e.f0 e.f1 e.f2 L) (shp L e) := by
 induction e using ind with
 | h e ih =>
 intro hw
 have loop : ∀ (r pre : List S24), e.f2 = pre ++ r → ∀ b, Ev (fun k => semigroupref04_shaped.l0 k L (e.f2.length : Int) b (pre.length : Int) e.f0 e.f1 e.f2) (b && shps L r) := by
  intro r
  induction r with
  | nil =>
   intro pre hp b
   exact Ev.to (Ev.step (f := fun _ => some b) (fun k => by simp only [semigroupref04_shaped.l0]; rw [hp, if_neg (not_lt_end pre)]) (Ev.now _)) (by simp [shps])
  | cons x r ihr =>
   intro pre hp b
   have hx : x ∈ e.f2 := by rw [hp]; simp
   have h1 := ih x hx (hw.kid hx)
   cases b with
   | false => exact Ev.to (Ev.step (f := fun _ => some false) (fun k => by simp only [semigroupref04_shaped.l0]; rw [hp, if_pos (lt_mid pre x r), if_neg (by decide)]) (Ev.now _)) (by simp)
   | true =>
    refine Ev.to (Ev.step (f := fun k => (semigroupref04_shaped.f k x.f0 x.f1 x.f2 L).bind fun t => semigroupref04_shaped.l0 k L (e.f2.length : Int) t ((pre ++ [x]).length : Int) e.f0 e.f1 e.f2) (fun k => ?_) (Ev.bind h1 (ihr (pre ++ [x]) (by rw [hp]; exact shift_mid pre x r) _))) (by simp [shps])
    simp only [semigroupref04_shaped.l0]
    rw [← next_mid (r := r) (x := x) (by rw [← hp]; exact hw.len), hp, if_pos (lt_mid pre x r), if_pos trivial, if_pos (ge0 _), if_pos (lt_mid pre x r), rd_mid]
 have l0 := loop e.f2 [] rfl
 have j3 : ∀ b, Ev (fun k => semigroupref04_shaped.j3 k L (e.f2.length : Int) b e.f0 e.f1 e.f2) (b && shps L e.f2) := fun b =>
  Ev.step (fun k => by simp only [semigroupref04_shaped.j3]; rfl) (l0 b)
 have j2 : ∀ b, Ev (fun k => semigroupref04_shaped.j2 k L (e.f2.length : Int) b e.f0 e.f1 e.f2) (b && (letOK e.f0 e.f1 L && shps L e.f2)) := fun b =>
  Ev.step (fun k => by simp only [semigroupref04_shaped.j2]; rfl) (Ev.to (Ev.if (fun _ => Ev.if (fun _ => Ev.if (fun _ => j3 _) (fun _ => j3 _)) (fun _ => j3 _)) (fun _ => Ev.if (fun _ => j3 _) (fun _ => j3 _))) (by
   unfold letOK
   generalize shps L e.f2 = z
   cases b with
   | false => by_cases h3 : e.f0 = 3 <;> simp [h3]
   | true =>
    by_cases h3 : e.f0 = 3
    ·by_cases h4 : e.f1 ≥ 0
     ·simp [h3, h4]
     ·simp [h3, h4] <;> (try (intros; omega))
    ·simp [h3]; by_cases h0 : e.f1 = 0 <;> simp [h0]))
 let z := (letOK e.f0 e.f1 L && shps L e.f2)
 have j1 : ∀ b c, Ev (fun k => semigroupref04_shaped.j1 k L (e.f2.length : Int) b e.f0 c e.f0 e.f1 e.f2) ((if c = true then decide (e.f2.length = 0) else if e.f0 = 7 ∨ e.f0 = 8 then decide (e.f2.length = 1) else (b && decide (2 ≤ e.f2.length))) && z) := fun b c =>
  Ev.step (fun k => by simp only [semigroupref04_shaped.j1]; rfl) (Ev.to (Ev.if (fun _ => j2 _) (fun _ => Ev.if (fun _ => j2 _) (fun _ => Ev.if (fun _ => j2 _) (fun _ => Ev.if (fun _ => j2 _) (fun _ => j2 _))))) (by
   have e0 : ((e.f2.length : Int) == 0) = decide (e.f2.length = 0) := by rw [Bool.eq_iff_iff]; simp; try omega
   have e1 : ((e.f2.length : Int) == 1) = decide (e.f2.length = 1) := by rw [Bool.eq_iff_iff]; simp; try omega
   have e2 : decide ((e.f2.length : Int) ≥ 2) = decide (2 ≤ e.f2.length) := by rw [decide_eq_decide]; omega
   rw [e0, e1, e2]
   show _ = (_ && (letOK e.f0 e.f1 L && shps L e.f2))
   generalize (letOK e.f0 e.f1 L && shps L e.f2) = z
   cases c with
   | true => simp
   | false =>
    by_cases h7 : e.f0 = 7
    ·simp [h7]
    ·by_cases h8 : e.f0 = 8
     ·simp [h8]
     ·cases b <;> simp [h7, h8]))
 have j0 : ∀ b, Ev (fun k => semigroupref04_shaped.j0 k L (e.f2.length : Int) b e.f0 e.f1 e.f2) ((if e.f0 = 1 ∨ e.f0 = 2 ∨ e.f0 = 3 then decide (e.f2.length = 0) else if e.f0 = 7 ∨ e.f0 = 8 then decide (e.f2.length = 1) else (b && decide (2 ≤ e.f2.length))) && z) := fun b =>
  Ev.step (fun k => by simp only [semigroupref04_shaped.j0]; rfl) (Ev.to (Ev.if (fun _ => j1 _ _) (fun _ => Ev.if (fun _ => j1 _ _) (fun _ => j1 _ _))) (by
   by_cases h1 : e.f0 = 1
   ·simp [h1]
   ·by_cases h2 : e.f0 = 2
    ·simp [h2]
    ·by_cases h3 : e.f0 = 3
     ·simp [h3]
     ·simp [h1, h2, h3]))
 refine Ev.step (fun k => by simp only [semigroupref04_shaped.f]; rfl) (Ev.to (Ev.if (fun _ => j0 _) (fun _ => j0 _)) ?_)
 rw [shp_mk]
 unfold opKids
 show _ = (_ && z)
 generalize z = z
 by_cases h1 : e.f0 = 1
 ·simp [h1]
 ·by_cases h2 : e.f0 = 2
  ·simp [h2]
  ·by_cases h3 : e.f0 = 3
   ·simp [h3]
   ·by_cases h4 : e.f0 = 4
    ·simp [h4]
    ·by_cases h5 : e.f0 = 5
     ·simp [h5]
     ·by_cases h6 : e.f0 = 6
      ·simp [h6]
      ·by_cases h7 : e.f0 = 7
       ·simp [h7]
       ·by_cases h8 : e.f0 = 8
        ·simp [h8]
        ·simp [h1, h2, h3, h4, h5, h6, h7, h8]
         intro a b; omega
def validate (L : Int) (e : S24) : Int := if L < 1 ∨ 6 < L then 1 else if ¬ WithinP e then 3 else if shp L e = false then 4 else 0
theorem validate_prog (e : S24) (hw : WF e) (L : Int) : Ev (fun k => expr_Validate.f k e.f0 e.f1 e.f2 L) (validate L e) := by
 have j0 : ∀ b, Ev (fun k => expr_Validate.j0 k L b e.f0 e.f1 e.f2) (if b = true then 1 else if ¬ WithinP e then 3 else if shp L e = false then 4 else 0) := fun b =>
  Ev.step (fun k => by simp only [expr_Validate.j0]; rfl) (Ev.if (fun _ => Ev.now _) (fun _ => Ev.bind (within_prog e hw) (by
   by_cases h : WithinP e
   ·simp only [decide_eq_true h, h, if_true, not_true, if_false]
    refine Ev.bind (shaped_prog L e hw h.1) ?_
    cases shp L e
    ·simp; exact Ev.now _
    ·simp; exact Ev.now _
   ·simp only [decide_eq_false h, h]
    simp; exact Ev.now _)))
 refine Ev.congr (f := fun k => if L < 1 then expr_Validate.j0 k L true e.f0 e.f1 e.f2 else expr_Validate.j0 k L (decide (L > 6)) e.f0 e.f1 e.f2) (fun k => by simp only [expr_Validate.f]) (Ev.to (Ev.if (fun _ => j0 _) (fun _ => j0 _)) ?_)
 unfold validate
 by_cases h1 : L < 1
 ·simp [h1]
 ·by_cases h2 : L > 6
  ·simp [h1, h2]
  ·simp [h1, h2]
theorem validate_ref (e : S24) (hw : WF e) (L : Int) : Ev (fun k => semigroupref04_Validate.f k e.f0 e.f1 e.f2 L) (validate L e) := by
 have hm : semigroupref01_MayLetters.f L = some (decide (1 ≤ L ∧ L ≤ 6)) := by
  unfold semigroupref01_MayLetters.f
  by_cases h : L ≥ 1
  ·rw [if_pos h]; congr 1; rw [decide_eq_decide]; omega
  ·rw [if_neg h]; congr 1; rw [eq_comm, decide_eq_false_iff_not]; omega
 refine Ev.congr (fun k => by simp only [semigroupref04_Validate.f, hm]; rfl) ?_
 unfold validate
 by_cases h1 : 1 ≤ L ∧ L ≤ 6
 ·have h2 : ¬ (L < 1 ∨ 6 < L) := by omega
  simp only [decide_eq_true h1, Option.bind_some, if_true, if_neg h2]
  refine Ev.bind (within_ref e hw) ?_
  by_cases h : WithinP e
  ·simp only [decide_eq_true h, h, if_true, not_true, if_false]
   refine Ev.bind (shaped_ref L e hw) ?_
   cases shp L e
   ·simp; exact Ev.now _
   ·simp; exact Ev.now _
  ·simp only [decide_eq_false h, h]
   simp; exact Ev.now _
 ·have h2 : (L < 1 ∨ 6 < L) := by omega
  simp only [decide_eq_false h1, Option.bind_some, if_pos h2]
  simp; exact Ev.now _
def Vld (e : S24) : Prop := WithinP e ∧ shp 6 e = true
instance (e : S24) : Decidable (Vld e) := by unfold Vld; infer_instance
theorem validate_vld (e : S24) : (validate 6 e == 0) = decide (Vld e) := by
 unfold validate Vld
 by_cases h : WithinP e
 ·by_cases hs : shp 6 e = true
  ·simp [h, hs]
  ·simp [h, hs]
 ·simp [h]
theorem valid_prog (e : S24) (hw : WF e) : Ev (fun k => expr_valid.f k e.f0 e.f1 e.f2) (decide (Vld e)) :=
 Ev.congr (f := fun k => (expr_Validate.f k e.f0 e.f1 e.f2 6).bind fun t => some (t == 0)) (fun k => by simp only [expr_valid.f]) (Ev.bind (f := fun k t => some (t == 0)) (validate_prog e hw 6) (Ev.to (Ev.now _) (validate_vld e)))
theorem valid_ref (e : S24) (hw : WF e) : Ev (fun k => semigroupref04_Valid.f k e.f0 e.f1 e.f2) (decide (Vld e)) :=
 Ev.congr (f := fun k => (semigroupref04_Validate.f k e.f0 e.f1 e.f2 6).bind fun t => some (t == 0)) (fun k => by simp only [semigroupref04_Valid.f]) (Ev.bind (f := fun k t => some (t == 0)) (validate_ref e hw 6) (Ev.to (Ev.now _) (validate_vld e)))
end Go.Proofs.Ytjofkebiacaciaa.T04
end
section
namespace Go.Proofs.Ytjofkebiacaciaa.T04
open Go Go.RowKit Go.Proofs.Ytjofkebiacaciaa.PAll Go.Proofs.YtjofkebiacaciaaW.PrintWords Go.Proofs.YtjofkebiacaciaaW.PrintLast Go.Proofs.YtjofkebiacaciaaW.PrintMore Go.Proofs.Ytjofkebiacaciaa.AllRead24
set_option linter.all false
theorem size_ev (e : S24) : WF e → size e ≤ 400 → Ev (fun k => expr_size.f k e.f0 e.f1 e.f2) (size e : Int) := by
 induction e using ind with
 | h e ih =>
 intro hw hs
 have loop : ∀ (r pre : List S24), e.f2 = pre ++ r → ∀ m : Nat, m + sizes r ≤ 400 → Ev (fun k => expr_size.l0 k m e.f2 (e.f2.length : Int) (pre.length : Int)) ((m + sizes r : Nat) : Int) := by
  intro r
  induction r with
  | nil =>
   intro pre hp m hm
   exact Ev.to (Ev.step (f := fun _ => some (m : Int)) (fun k => by simp only [expr_size.l0]; rw [hp, if_neg (not_lt_end pre)]) (Ev.now _)) (by simp [sizes])
  | cons x r ihr =>
   intro pre hp m hm
   have hx : x ∈ e.f2 := by rw [hp]; simp
   simp only [sizes] at hm
   refine Ev.to (Ev.step (f := fun k => (expr_size.f k x.f0 x.f1 x.f2).bind fun t => expr_size.l0 k (wrap64 ((m : Int) + t)) e.f2 (e.f2.length : Int) ((pre ++ [x]).length : Int)) (fun k => ?_) (Ev.bind (ih x hx (hw.kid hx) (by omega)) ?_)) (rfl : ((m + sizes (x :: r) : Nat) : Int) = _)
   ·simp only [expr_size.l0]
    rw [← next_mid (r := r) (x := x) (by rw [← hp]; exact hw.len), hp, if_pos (lt_mid pre x r), if_pos (ge0 _), if_pos (lt_mid pre x r), rd_mid]
   ·have e1 : wrap64 ((m : Int) + (size x : Int)) = ((m + size x : Nat) : Int) := by rw [w64 (by omega) (by omega)]; omega
    rw [e1]
    exact Ev.to (ihr (pre ++ [x]) (by rw [hp]; exact shift_mid pre x r) (m + size x) (by omega)) (by simp [sizes]; omega)
 have := loop e.f2 [] rfl 1 (by rw [size_mk] at hs; exact hs)
 exact Ev.step (f := fun k => expr_size.l0 k 1 e.f2 (e.f2.length : Int) 0) (fun k => by simp only [expr_size.f]) (Ev.to this (by rw [size_mk]))
theorem depth_ev (e : S24) : WF e → size e ≤ 400 → Ev (fun k => expr_depth.f k e.f0 e.f1 e.f2) (depth e : Int) := by
 induction e using ind with
 | h e ih =>
 intro hw hs
 have loop : ∀ (r pre : List S24), e.f2 = pre ++ r → ∀ m : Nat, m ≤ 400 → Ev (fun k => expr_depth.l0 k m e.f2 (e.f2.length : Int) (pre.length : Int)) ((max m (depths r) + 1 : Nat) : Int) := by
  intro r
  induction r with
  | nil =>
   intro pre hp m hm
   exact Ev.to (Ev.step (f := fun _ => some ((m + 1 : Nat) : Int)) (fun k => by simp only [expr_depth.l0]; rw [hp, if_neg (not_lt_end pre), w64 (by omega) (by omega)]; try rfl) (Ev.now _)) (by simp [depths])
  | cons x r ihr =>
   intro pre hp m hm
   have hx : x ∈ e.f2 := by rw [hp]; simp
   have hsx : size x ≤ 400 := by have := sizes_mem hx; rw [size_mk] at hs; omega
   have hdx := depth_le_size x
   refine Ev.step (f := fun k => (expr_depth.f k x.f0 x.f1 x.f2).bind fun t => expr_depth.l0 k (mx m t) e.f2 (e.f2.length : Int) ((pre ++ [x]).length : Int)) (fun k => ?_) (Ev.bind (ih x hx (hw.kid hx) hsx) ?_)
   ·simp only [expr_depth.l0]
    rw [← next_mid (r := r) (x := x) (by rw [← hp]; exact hw.len), hp, if_pos (lt_mid pre x r), if_pos (ge0 _), if_pos (lt_mid pre x r), rd_mid]
   ·have e1 : mx (m : Int) (depth x : Int) = ((max m (depth x) : Nat) : Int) := by unfold mx; split <;> omega
    rw [e1]
    exact Ev.to (ihr (pre ++ [x]) (by rw [hp]; exact shift_mid pre x r) (max m (depth x)) (by omega)) (by simp [depths]; (try omega))
 have := loop e.f2 [] rfl 0 (by omega)
 exact Ev.step (f := fun k => expr_depth.l0 k 0 e.f2 (e.f2.length : Int) 0) (fun k => by simp only [expr_depth.f]) (Ev.to this (by rw [depth_mk]; omega))
mutual
def star : S24 → Nat
 | ⟨o, _, l⟩ => stars l + (if o = 7 then 1 else 0)
def stars : List S24 → Nat
 | [] => 0
 | x :: r => max (star x) (stars r)
end
theorem star_mk (e : S24) : star e = stars e.f2 + (if e.f0 = 7 then 1 else 0) := by cases e; rw [star]
theorem star_le_size (e : S24) : star e ≤ size e := by
 induction e using ind with
 | h e ih =>
 have : ∀ l : List S24, (∀ k, k ∈ l → star k ≤ size k) → stars l ≤ sizes l := by
  intro l
  induction l with
  | nil => intro _; simp [stars, sizes]
  | cons x r ihr =>
   intro h
   have h1 := h x (by simp)
   have h2 := ihr (fun k hk => h k (by simp [hk]))
   simp [stars, sizes]; omega
 have := this e.f2 ih
 rw [size_mk, star_mk]; split <;> omega
theorem star_ev (e : S24) : WF e → size e ≤ 400 → Ev (fun k => expr_height.f k e.f0 e.f1 e.f2) (star e : Int) ∧ Ev (fun k => semigroupref04_StarHeight.f k e.f0 e.f1 e.f2) (star e : Int) := by
 induction e using ind with
 | h e ih =>
 intro hw hs
 have loop : ∀ (r pre : List S24), e.f2 = pre ++ r → ∀ m : Nat, m ≤ 400 → Ev (fun k => expr_height.l0 k m e.f2 (e.f2.length : Int) (pre.length : Int) e.f0 e.f1 e.f2) ((max m (stars r) + (if e.f0 = 7 then 1 else 0) : Nat) : Int) ∧ Ev (fun k => semigroupref04_StarHeight.l0 k m e.f2 (e.f2.length : Int) (pre.length : Int) e.f0 e.f1 e.f2) ((max m (stars r) + (if e.f0 = 7 then 1 else 0) : Nat) : Int) := by
  intro r
  induction r with
  | nil =>
   intro pre hp m hm
   have q : (if e.f0 = 7 then some (wrap64 ((m : Int) + 1)) else some (m : Int)) = some ((max m (stars []) + (if e.f0 = 7 then 1 else 0) : Nat) : Int) := by
    by_cases h : e.f0 = 7
    ·rw [if_pos h, if_pos h, w64 (by omega) (by omega)]; simp [stars]
    ·rw [if_neg h, if_neg h]; simp [stars]
   exact ⟨Ev.step (f := fun _ => some ((max m (stars []) + (if e.f0 = 7 then 1 else 0) : Nat) : Int)) (fun k => by simp only [expr_height.l0]; rw [hp, if_neg (not_lt_end pre), q]) (Ev.now _), Ev.step (f := fun _ => some ((max m (stars []) + (if e.f0 = 7 then 1 else 0) : Nat) : Int)) (fun k => by simp only [semigroupref04_StarHeight.l0]; rw [hp, if_neg (not_lt_end pre), q]) (Ev.now _)⟩
  | cons x r ihr =>
   intro pre hp m hm
   have hx : x ∈ e.f2 := by rw [hp]; simp
   have hsx : size x ≤ 400 := by have := sizes_mem hx; rw [size_mk] at hs; omega
   have hdx := star_le_size x
   have e1 : mx (m : Int) (star x : Int) = ((max m (star x) : Nat) : Int) := by unfold mx; split <;> omega
   have hl : (pre ++ x :: r).length ≤ maxLen := by rw [← hp]; exact hw.len
   obtain ⟨k1, k2⟩ := ih x hx (hw.kid hx) hsx
   obtain ⟨g1, g2⟩ := ihr (pre ++ [x]) (by rw [hp]; exact shift_mid pre x r) (max m (star x)) (by omega)
   have ee : ((max (max m (star x)) (stars r) + (if e.f0 = 7 then 1 else 0) : Nat) : Int) = ((max m (stars (x :: r)) + (if e.f0 = 7 then 1 else 0) : Nat) : Int) := by simp [stars]; try omega
   refine ⟨Ev.step (f := fun k => (expr_height.f k x.f0 x.f1 x.f2).bind fun t => expr_height.l0 k (mx m t) e.f2 (e.f2.length : Int) ((pre ++ [x]).length : Int) e.f0 e.f1 e.f2) (fun k => ?_) (Ev.bind k1 ?_), Ev.step (f := fun k => (semigroupref04_StarHeight.f k x.f0 x.f1 x.f2).bind fun t => semigroupref04_StarHeight.l0 k (mx m t) e.f2 (e.f2.length : Int) ((pre ++ [x]).length : Int) e.f0 e.f1 e.f2) (fun k => ?_) (Ev.bind k2 ?_)⟩
   ·simp only [expr_height.l0]
    rw [← next_mid (r := r) (x := x) hl, hp, if_pos (lt_mid pre x r), if_pos (ge0 _), if_pos (lt_mid pre x r), rd_mid]
   ·rw [e1]; exact Ev.to g1 ee
   ·simp only [semigroupref04_StarHeight.l0]
    rw [← next_mid (r := r) (x := x) hl, hp, if_pos (lt_mid pre x r), if_pos (ge0 _), if_pos (lt_mid pre x r), rd_mid]
   ·rw [e1]; exact Ev.to g2 ee
 obtain ⟨g1, g2⟩ := loop e.f2 [] rfl 0 (by omega)
 exact ⟨Ev.step (f := fun k => expr_height.l0 k 0 e.f2 (e.f2.length : Int) 0 e.f0 e.f1 e.f2) (fun k => by simp only [expr_height.f]) (Ev.to g1 (by rw [star_mk]; simp)), Ev.step (f := fun k => semigroupref04_StarHeight.l0 k 0 e.f2 (e.f2.length : Int) 0 e.f0 e.f1 e.f2) (fun k => by simp only [semigroupref04_StarHeight.f]) (Ev.to g2 (by rw [star_mk]; simp))⟩
theorem uses_ev (e : S24) : WF e → Ev (fun k => semigroupref04_Uses.f k e.f0 e.f1 e.f2 7) (decide (star e ≠ 0)) := by
 induction e using ind with
 | h e ih =>
 intro hw
 have loop : ∀ (r pre : List S24), e.f2 = pre ++ r → Ev (fun k => semigroupref04_Uses.l0 k 7 e.f2 (e.f2.length : Int) (pre.length : Int)) (decide (stars r ≠ 0)) := by
  intro r
  induction r with
  | nil =>
   intro pre hp
   exact Ev.to (Ev.step (f := fun _ => some false) (fun k => by simp only [semigroupref04_Uses.l0]; rw [hp, if_neg (not_lt_end pre)]) (Ev.now _)) (by simp [stars])
  | cons x r ihr =>
   intro pre hp
   have hx : x ∈ e.f2 := by rw [hp]; simp
   refine Ev.to (Ev.step (f := fun k => (semigroupref04_Uses.f k x.f0 x.f1 x.f2 7).bind fun t => if t = true then some true else semigroupref04_Uses.l0 k 7 e.f2 (e.f2.length : Int) ((pre ++ [x]).length : Int)) (fun k => ?_) (Ev.bind (ih x hx (hw.kid hx)) (Ev.if (fun _ => Ev.now _) (fun _ => ihr (pre ++ [x]) (by rw [hp]; exact shift_mid pre x r))))) ?_
   ·simp only [semigroupref04_Uses.l0]
    rw [← next_mid (r := r) (x := x) (by rw [← hp]; exact hw.len), hp, if_pos (lt_mid pre x r), if_pos (ge0 _), if_pos (lt_mid pre x r), rd_mid]
   ·by_cases h : star x = 0
    ·simp [h, stars]
    ·simp [h, stars]
     all_goals (try omega)
 by_cases h : e.f0 = 7
 ·exact Ev.to (Ev.step (f := fun _ => some true) (fun k => by simp only [semigroupref04_Uses.f]; rw [if_pos h]) (Ev.now _)) (by rw [star_mk, if_pos h]; simp)
 ·exact Ev.to (Ev.step (f := fun k => semigroupref04_Uses.l0 k 7 e.f2 (e.f2.length : Int) 0) (fun k => by simp only [semigroupref04_Uses.f]; rw [if_neg h]) (loop e.f2 [] rfl)) (by rw [star_mk, if_neg h]; simp)
mutual
def nul : S24 → Bool
 | ⟨o, _, l⟩ => if o = 2 ∨ o = 7 then true else if o = 4 then nulOne l else if o = 5 ∨ o = 6 then nulAll l else if o = 8 then !nulOne l else false
def nulOne : List S24 → Bool
 | [] => false
 | x :: r => nul x || nulOne r
def nulAll : List S24 → Bool
 | [] => true
 | x :: r => nul x && nulAll r
end
theorem nul_mk (e : S24) : nul e = if e.f0 = 2 ∨ e.f0 = 7 then true else if e.f0 = 4 then nulOne e.f2 else if e.f0 = 5 ∨ e.f0 = 6 then nulAll e.f2 else if e.f0 = 8 then !nulOne e.f2 else false := by cases e; rw [nul]
theorem kid_shp {L : Int} {e : S24} (h : shp L e = true) {x : S24} (hx : x ∈ e.f2) : shp L x = true := by
 rw [shp_mk] at h
 simp at h
 exact shps_mem h.2.2 hx
theorem not_one {L : Int} {e : S24} (h : shp L e = true) (h8 : e.f0 = 7 ∨ e.f0 = 8) : ∃ x, e.f2 = [x] := by
 rw [shp_mk] at h
 simp at h
 have := h.1
 unfold opKids at this
 rw [if_neg (by omega), if_pos h8] at this
 have := of_decide_eq_true this
 exact List.length_eq_one_iff.mp this
theorem nul_prog (e : S24) : WF e → shp 6 e = true → Ev (fun k => simplify_Nullable.f k e.f0 e.f1 e.f2) (nul e) := by
 induction e using ind with
 | h e ih =>
 intro hw hs
 have lone : ∀ (r pre : List S24), e.f2 = pre ++ r → Ev (fun k => simplify_Nullable.l0 k e.f2 (e.f2.length : Int) (pre.length : Int)) (nulOne r) := by
  intro r
  induction r with
  | nil =>
   intro pre hp
   exact Ev.step (f := fun _ => some false) (fun k => by simp only [simplify_Nullable.l0]; rw [hp, if_neg (not_lt_end pre)]) (Ev.now _)
  | cons x r ihr =>
   intro pre hp
   have hx : x ∈ e.f2 := by rw [hp]; simp
   refine Ev.to (Ev.step (f := fun k => (simplify_Nullable.f k x.f0 x.f1 x.f2).bind fun t => if t = true then some true else simplify_Nullable.l0 k e.f2 (e.f2.length : Int) ((pre ++ [x]).length : Int)) (fun k => ?_) (Ev.bind (ih x hx (hw.kid hx) (kid_shp hs hx)) (Ev.if (fun _ => Ev.now _) (fun _ => ihr (pre ++ [x]) (by rw [hp]; exact shift_mid pre x r))))) ?_
   ·simp only [simplify_Nullable.l0]
    rw [← next_mid (r := r) (x := x) (by rw [← hp]; exact hw.len), hp, if_pos (lt_mid pre x r), if_pos (ge0 _), if_pos (lt_mid pre x r), rd_mid]
   ·rw [nulOne]; cases nul x <;> simp
 have lall : ∀ (r pre : List S24), e.f2 = pre ++ r → Ev (fun k => simplify_Nullable.l1 k e.f2 (e.f2.length : Int) (pre.length : Int)) (nulAll r) := by
  intro r
  induction r with
  | nil =>
   intro pre hp
   exact Ev.step (f := fun _ => some true) (fun k => by simp only [simplify_Nullable.l1]; rw [hp, if_neg (not_lt_end pre)]) (Ev.now _)
  | cons x r ihr =>
   intro pre hp
   have hx : x ∈ e.f2 := by rw [hp]; simp
   refine Ev.to (Ev.step (f := fun k => (simplify_Nullable.f k x.f0 x.f1 x.f2).bind fun t => if t = true then simplify_Nullable.l1 k e.f2 (e.f2.length : Int) ((pre ++ [x]).length : Int) else some false) (fun k => ?_) (Ev.bind (ih x hx (hw.kid hx) (kid_shp hs hx)) (Ev.if (fun _ => ihr (pre ++ [x]) (by rw [hp]; exact shift_mid pre x r)) (fun _ => Ev.now _)))) ?_
   ·simp only [simplify_Nullable.l1]
    rw [← next_mid (r := r) (x := x) (by rw [← hp]; exact hw.len), hp, if_pos (lt_mid pre x r), if_pos (ge0 _), if_pos (lt_mid pre x r), rd_mid]
   ·rw [nulAll]; cases nul x <;> simp
 have j2 : ∀ b, Ev (fun k => simplify_Nullable.j2 k e.f0 b e.f0 e.f1 e.f2) (if b = true then nulAll e.f2 else if e.f0 = 8 then !nulOne e.f2 else false) := fun b =>
  Ev.step (f := fun k => if b = true then simplify_Nullable.l1 k e.f2 (e.f2.length : Int) 0 else if e.f0 = 8 then (if 0 < (e.f2.length : Int) then ((simplify_Nullable.f k ((rd_T24 e.f2 0).f0) ((rd_T24 e.f2 0).f1) ((rd_T24 e.f2 0).f2)).bind fun t => some (!t)) else none) else some false) (fun k => by simp only [simplify_Nullable.j2]) (Ev.if (fun _ => lall e.f2 [] rfl) (fun _ => Ev.if (fun h8 => by
   obtain ⟨x, hx⟩ := not_one hs (.inr h8)
   have hm : x ∈ e.f2 := by rw [hx]; simp
   have hx' := ih x hm (hw.kid hm) (kid_shp hs hm)
   rw [hx]
   simp only [List.length_singleton, rd_head]
   simp only [show ((0 : Int) < ((1 : Nat) : Int)) = True from by simp, if_true]
   exact Ev.to (Ev.bind (f := fun _ t => some (!t)) hx' (Ev.now _)) (by simp [nulOne])) (fun _ => Ev.now _)))
 have j0 : ∀ b, Ev (fun k => simplify_Nullable.j0 k e.f0 b e.f0 e.f1 e.f2) (if b = true then true else if e.f0 = 4 then nulOne e.f2 else if e.f0 = 5 then nulAll e.f2 else if e.f0 = 6 then nulAll e.f2 else if e.f0 = 8 then !nulOne e.f2 else false) := fun b =>
  Ev.to (Ev.step (f := fun k => if b = true then some true else if e.f0 = 4 then simplify_Nullable.l0 k e.f2 (e.f2.length : Int) 0 else if e.f0 = 5 then simplify_Nullable.j2 k e.f0 (e.f0 == 5) e.f0 e.f1 e.f2 else simplify_Nullable.j2 k e.f0 (e.f0 == 6) e.f0 e.f1 e.f2) (fun k => by simp only [simplify_Nullable.j0]) (Ev.if (fun _ => Ev.now _) (fun _ => Ev.if (fun _ => lone e.f2 [] rfl) (fun _ => Ev.if (fun _ => j2 _) (fun _ => j2 _))))) (by
   cases b with
   | true => simp
   | false =>
    by_cases h4 : e.f0 = 4
    ·simp [h4]
    ·by_cases h5 : e.f0 = 5
     ·simp [h5]
     ·by_cases h6 : e.f0 = 6 <;> simp [h4, h5, h6])
 refine Ev.to (Ev.step (f := fun k => if e.f0 = 2 then simplify_Nullable.j0 k e.f0 (e.f0 == 2) e.f0 e.f1 e.f2 else simplify_Nullable.j0 k e.f0 (e.f0 == 7) e.f0 e.f1 e.f2) (fun k => by simp only [simplify_Nullable.f]) (Ev.if (fun _ => j0 _) (fun _ => j0 _))) ?_
 rw [nul_mk]
 by_cases h2 : e.f0 = 2
 ·simp [h2]
 ·by_cases h7 : e.f0 = 7
  ·simp [h7]
  ·by_cases h4 : e.f0 = 4
   ·simp [h4]
   ·by_cases h5 : e.f0 = 5
    ·simp [h5]
    ·by_cases h6 : e.f0 = 6 <;> simp [h2, h7, h4, h5, h6]
theorem nul_ref (e : S24) : WF e → Ev (fun k => semigroupref04_Nullable.f k e.f0 e.f1 e.f2) (nul e) := by
 induction e using ind with
 | h e ih =>
 intro hw
 have j2 : ∀ a b c, Ev (fun k => semigroupref04_Nullable.j2 k a b e.f0 c) (if c = true then a else if e.f0 = 8 then !b else false) := fun a b c =>
  Ev.step (f := fun k => if c = true then some a else if e.f0 = 8 then some (!b) else some false) (fun k => by simp only [semigroupref04_Nullable.j2]) (Ev.if (fun _ => Ev.now _) (fun _ => Ev.if (fun _ => Ev.now _) (fun _ => Ev.now _)))
 have j1 : ∀ a b c, Ev (fun k => semigroupref04_Nullable.j1 k a b e.f0 c) (if c = true then true else if e.f0 = 4 then b else if e.f0 = 5 ∨ e.f0 = 6 then a else if e.f0 = 8 then !b else false) := fun a b c =>
  Ev.to (Ev.step (f := fun k => if c = true then some true else if e.f0 = 4 then some b else if e.f0 = 5 then semigroupref04_Nullable.j2 k a b e.f0 (e.f0 == 5) else semigroupref04_Nullable.j2 k a b e.f0 (e.f0 == 6)) (fun k => by simp only [semigroupref04_Nullable.j1]) (Ev.if (fun _ => Ev.now _) (fun _ => Ev.if (fun _ => Ev.now _) (fun _ => Ev.if (fun _ => j2 _ _ _) (fun _ => j2 _ _ _))))) (by
   by_cases h5 : e.f0 = 5
   ·simp [h5]
   ·by_cases h6 : e.f0 = 6 <;> simp [h5, h6])
 have loop : ∀ (r pre : List S24), e.f2 = pre ++ r → ∀ a b, Ev (fun k => semigroupref04_Nullable.l0 k a b e.f2 (e.f2.length : Int) (pre.length : Int) e.f0 e.f1 e.f2) (if e.f0 = 2 ∨ e.f0 = 7 then true else if e.f0 = 4 then (b || nulOne r) else if e.f0 = 5 ∨ e.f0 = 6 then (a && nulAll r) else if e.f0 = 8 then !(b || nulOne r) else false) := by
  intro r
  induction r with
  | nil =>
   intro pre hp a b
   refine Ev.to (Ev.step (f := fun k => if e.f0 = 2 then semigroupref04_Nullable.j1 k a b e.f0 (e.f0 == 2) else semigroupref04_Nullable.j1 k a b e.f0 (e.f0 == 7)) (fun k => by simp only [semigroupref04_Nullable.l0]; rw [hp, if_neg (not_lt_end pre)]) (Ev.if (fun _ => j1 _ _ _) (fun _ => j1 _ _ _))) ?_
   by_cases h2 : e.f0 = 2
   ·simp [h2]
   ·by_cases h7 : e.f0 = 7
    ·simp [h7]
    ·simp [h2, h7, nulOne, nulAll]
  | cons x r ihr =>
   intro pre hp a b
   have hx : x ∈ e.f2 := by rw [hp]; simp
   have nx := ihr (pre ++ [x]) (by rw [hp]; exact shift_mid pre x r)
   refine Ev.to (Ev.step (f := fun k => (semigroupref04_Nullable.f k x.f0 x.f1 x.f2).bind fun t => if a = true then (if b = true then semigroupref04_Nullable.l0 k t true e.f2 (e.f2.length : Int) ((pre ++ [x]).length : Int) e.f0 e.f1 e.f2 else semigroupref04_Nullable.l0 k t t e.f2 (e.f2.length : Int) ((pre ++ [x]).length : Int) e.f0 e.f1 e.f2) else (if b = true then semigroupref04_Nullable.l0 k false true e.f2 (e.f2.length : Int) ((pre ++ [x]).length : Int) e.f0 e.f1 e.f2 else semigroupref04_Nullable.l0 k false t e.f2 (e.f2.length : Int) ((pre ++ [x]).length : Int) e.f0 e.f1 e.f2)) (fun k => ?_) (Ev.bind (ih x hx (hw.kid hx)) (Ev.if (fun _ => Ev.if (fun _ => nx _ _) (fun _ => nx _ _)) (fun _ => Ev.if (fun _ => nx _ _) (fun _ => nx _ _))))) ?_
   ·simp only [semigroupref04_Nullable.l0]
    rw [← next_mid (r := r) (x := x) (by rw [← hp]; exact hw.len), hp, if_pos (lt_mid pre x r), if_pos (ge0 _), if_pos (lt_mid pre x r), rd_mid]
   ·rw [nulOne, nulAll]
    cases a <;> cases b <;> simp
 refine Ev.to (Ev.step (f := fun k => semigroupref04_Nullable.l0 k true false e.f2 (e.f2.length : Int) 0 e.f0 e.f1 e.f2) (fun k => by simp only [semigroupref04_Nullable.f]) (loop e.f2 [] rfl true false)) ?_
 rw [nul_mk]; simp
end Go.Proofs.Ytjofkebiacaciaa.T04
end
section
namespace Go.Proofs.Ytjofkebiacaciaa.T04
open Go Go.RowKit Go.Proofs.Ytjofkebiacaciaa.PAll Go.Proofs.YtjofkebiacaciaaW.PrintWords Go.Proofs.YtjofkebiacaciaaW.PrintLast Go.Proofs.YtjofkebiacaciaaW.PrintMore Go.Proofs.Ytjofkebiacaciaa.AllRead24
set_option linter.all false
def lev (o : Int) : Int := if o = 4 then 1 else if o = 6 then 2 else if o = 5 then 3 else if o = 8 then 4 else if o = 7 then 5 else 6
theorem lev_prog (o : Int) : expr_level.f o = some (lev o) := by
 unfold expr_level.f lev
 by_cases h4 : o = 4
 ·simp [h4]
 ·by_cases h6 : o = 6
  ·simp [h6]
  ·by_cases h5 : o = 5
   ·simp [h5]
   ·by_cases h8 : o = 8
    ·simp [h8]
    ·by_cases h7 : o = 7 <;> simp [h4, h5, h6, h7, h8]
theorem lev_ref (o : Int) : semigroupref04_level.f o = some (lev o) := by
 rw [← lev_prog]; rfl
theorem lev_pos (o : Int) : 1 ≤ lev o ∧ lev o ≤ 6 := by unfold lev; repeat (first | omega | split)
mutual
def body : S24 → List Int
 | ⟨o, a, l⟩ => if o = 1 then [48] else if o = 2 then [49] else if o = 3 then [(97 + a % 256) % 256] else if o = 8 then [33] ++ bodyH 4 l else if o = 7 then bodyH 5 l ++ [42] else if o = 4 then bodies [124] 2 true l else if o = 6 then bodies [38] 3 true l else bodies [] 4 true l
def bodyH (least : Int) : List S24 → List Int
 | [] => []
 | x :: _ => if lev x.f0 < least then [40] ++ body x ++ [41] else body x
def bodies (sep : List Int) (least : Int) (first : Bool) : List S24 → List Int
 | [] => []
 | x :: r => (if first = true then [] else sep) ++ ((if lev x.f0 < least then [40] ++ body x ++ [41] else body x) ++ bodies sep least false r)
end
def par (least : Int) (x : S24) : List Int := if lev x.f0 < least then [40] ++ body x ++ [41] else body x
theorem body_mk (e : S24) : body e = if e.f0 = 1 then [48] else if e.f0 = 2 then [49] else if e.f0 = 3 then [(97 + e.f1 % 256) % 256] else if e.f0 = 8 then [33] ++ bodyH 4 e.f2 else if e.f0 = 7 then bodyH 5 e.f2 ++ [42] else if e.f0 = 4 then bodies [124] 2 true e.f2 else if e.f0 = 6 then bodies [38] 3 true e.f2 else bodies [] 4 true e.f2 := by cases e; rw [body]
theorem bodyH_cons (least : Int) (x : S24) (r : List S24) : bodyH least (x :: r) = par least x := by rw [bodyH]; rfl
theorem bodies_cons (sep : List Int) (least : Int) (b : Bool) (x : S24) (r : List S24) : bodies sep least b (x :: r) = (if b = true then [] else sep) ++ (par least x ++ bodies sep least false r) := by rw [bodies]; rfl
theorem par_zero (x : S24) : par 0 x = body x := by unfold par; rw [if_neg (by have := lev_pos x.f0; omega)]
theorem body_len (e : S24) : (body e).length + 3 ≤ 4 * size e := by
 induction e using ind with
 | h e ih =>
 have hp : ∀ (least : Int) x, x ∈ e.f2 → (par least x).length + 1 ≤ 4 * size x := by
  intro least x hx
  have := ih x hx
  unfold par
  split
  ·simp; omega
  ·omega
 have hb : ∀ (sep : List Int), sep.length ≤ 1 → ∀ (least : Int) (l : List S24), (∀ x, x ∈ l → x ∈ e.f2) → ∀ b, (bodies sep least b l).length ≤ 4 * sizes l := by
  intro sep hs least l
  induction l with
  | nil => intro _ b; simp [bodies]
  | cons x r ihr =>
   intro hm b
   have h1 := hp least x (hm x (by simp))
   have h2 := ihr (fun y hy => hm y (by simp [hy])) false
   rw [bodies_cons, sizes]
   cases b
   ·simp; omega
   ·simp; omega
 have hh : ∀ least : Int, (bodyH least e.f2).length ≤ 4 * sizes e.f2 - 1 := by
  intro least
  cases hl : e.f2 with
  | nil => simp [bodyH]
  | cons x r =>
   have h1 := hp least x (by rw [hl]; simp)
   rw [bodyH_cons, sizes]; omega
 have h0 := hb [124] (by simp) 2 e.f2 (fun _ h => h) true
 have h1 := hb [38] (by simp) 3 e.f2 (fun _ h => h) true
 have h2 := hb [] (by simp) 4 e.f2 (fun _ h => h) true
 have h3 := hh 4
 have h4 := hh 5
 rw [body_mk, size_mk]
 repeat (first | split | (simp; omega) | (simp; done))
theorem par_len (least : Int) (x : S24) : (par least x).length + 1 ≤ 4 * size x := by
 have := body_len x
 unfold par
 split
 ·simp; omega
 ·omega
theorem text_ev (e : S24) : WF e → shp 6 e = true → size e ≤ 400 → ∀ (b : List Int) (least : Int), b.length + 4 * size e + depth e ≤ 100000 → least ≤ 7 → Ev (fun k => expr_text.f k b e.f0 e.f1 e.f2 least) (b ++ par least e) := by
 induction e using ind with
 | h e ih =>
 intro hw hs hz
 have hd : 1 ≤ depth e := depth_pos e
 have kid : ∀ x, x ∈ e.f2 → size x ≤ 400 ∧ size x ≤ sizes e.f2 ∧ depth x + 1 ≤ depth e := fun x hx => by have h1 := sizes_mem hx; have h2 := depths_mem hx; rw [size_mk e] at hz; rw [depth_mk e]; omega
 have loop : ∀ (s : Int) (least : Int), wrap64 (lev e.f0 + 1) = least → least ≤ 7 → ∀ (r pre : List S24), e.f2 = pre ++ r → ∀ b : List Int, b.length + 4 * sizes r + depth e ≤ 100000 →
   Ev (fun k => expr_text.l0 k b s e.f2 (e.f2.length : Int) (pre.length : Int) e.f0 e.f1 e.f2) (b ++ bodies (if s = 0 then [] else [s]) least (decide (pre = [])) r) := by
  intro s least hle hl7 r
  induction r with
  | nil =>
   intro pre hp b hb
   exact Ev.to (Ev.step (f := fun _ => some b) (fun k => by simp only [expr_text.l0]; rw [hp, if_neg (not_lt_end pre)]) (Ev.now _)) (by simp [bodies])
  | cons x r ihr =>
   intro pre hp b hb
   have hx : x ∈ e.f2 := by rw [hp]; simp
   obtain ⟨kx, ky, kz⟩ := kid x hx
   simp only [sizes] at hb
   have hn : wrap64 ((pre.length : Int) + 1) = ((pre ++ [x]).length : Int) := next_mid (r := r) (x := x) (by rw [← hp]; exact hw.len)
   have hlt : (pre.length : Int) < (e.f2.length : Int) := by rw [hp]; exact lt_mid pre x r
   have hrd : rd_T24 e.f2 (pre.length : Int) = x := by rw [hp]; exact rd_mid pre x r
   have tl : ∀ b' : List Int, b'.length + 4 * size x + 4 * sizes r + depth e ≤ 100001 → Ev (fun k => (expr_level.f e.f0).bind fun t => (expr_text.f k b' x.f0 x.f1 x.f2 (wrap64 (t + 1))).bind fun u => expr_text.l0 k u s e.f2 (e.f2.length : Int) (wrap64 ((pre.length : Int) + 1)) e.f0 e.f1 e.f2) (b' ++ (par least x ++ bodies (if s = 0 then [] else [s]) least false r)) := by
    intro b' hb'
    have pl := par_len least x
    simp only [lev_prog, Option.bind_some, hle, hn]
    refine Ev.to (Ev.bind (ih x hx (hw.kid hx) (kid_shp hs hx) kx b' least (by omega) hl7) (ihr (pre ++ [x]) (by rw [hp]; exact shift_mid pre x r) (b' ++ par least x) (by simp; omega))) ?_
    simp
   rw [bodies_cons]
   by_cases h0 : (pre.length : Int) > 0
   ·have hne : pre ≠ [] := by rintro rfl; simp at h0
    rw [decide_eq_false hne]
    by_cases hs0 : s = 0
    ·refine Ev.to (Ev.step (fun k => by simp only [expr_text.l0]; rw [if_pos hlt, if_pos (ge0 _), if_pos hlt, if_pos h0, hrd, hs0]) (Ev.step (fun k => by simp only [expr_text.j2]; rw [if_neg (by decide)]) (by rw [hs0] at tl; exact tl b (by omega)))) ?_
     simp [hs0]
    ·have hb1 : (s != 0) = true := by simp [hs0]
     refine Ev.to (Ev.step (fun k => by simp only [expr_text.l0]; rw [if_pos hlt, if_pos (ge0 _), if_pos hlt, if_pos h0, hrd, hb1]) (Ev.step (f := fun k => (expr_level.f e.f0).bind fun t => (expr_text.f k (b ++ [s]) x.f0 x.f1 x.f2 (wrap64 (t + 1))).bind fun u => expr_text.l0 k u s e.f2 (e.f2.length : Int) (wrap64 ((pre.length : Int) + 1)) e.f0 e.f1 e.f2) (fun k => by
      simp only [expr_text.j2]
      rw [if_pos trivial]
      simp only [Option.bind_some]
      rw [if_pos (by simp; omega)]) (tl (b ++ [s]) (by simp; omega)))) ?_
     simp [hs0]
   ·have hpe : pre = [] := List.eq_nil_of_length_eq_zero (by omega)
    rw [decide_eq_true hpe]
    refine Ev.to (Ev.step (fun k => by simp only [expr_text.l0]; rw [if_pos hlt, if_pos (ge0 _), if_pos hlt, if_neg h0, hrd]) (Ev.step (fun k => by simp only [expr_text.j2]; rw [if_neg (by decide)]) (tl b (by omega)))) ?_
    simp
 have one : ∀ b least, b.length + 4 * sizes e.f2 + depth e ≤ 100000 → ¬ lev e.f0 < least → Ev (fun k => expr_text.f k b e.f0 e.f1 e.f2 least) (b ++ body e) := by
  intro b least hb hl
  have hsz := size_mk e
  have lp := lev_pos e.f0
  have st : ∀ {g : Nat → Option (List Int)} {v : List Int}, (∀ k, expr_text.f (k + 1) b e.f0 e.f1 e.f2 least = g k) → Ev g v → Ev (fun k => expr_text.f k b e.f0 e.f1 e.f2 least) v := fun h1 h2 => Ev.step h1 h2
  by_cases h1 : e.f0 = 1
  ·refine st (g := fun _ => some (b ++ [48])) (fun k => by simp only [expr_text.f, lev_prog, Option.bind_some]; rw [if_neg hl, if_pos h1, if_pos (by simp; omega)]) (Ev.to (Ev.now _) (by rw [body_mk, if_pos h1]))
  by_cases h2 : e.f0 = 2
  ·refine st (g := fun _ => some (b ++ [49])) (fun k => by simp only [expr_text.f, lev_prog, Option.bind_some]; rw [if_neg hl, if_neg h1, if_pos h2, if_pos (by simp; omega)]) (Ev.to (Ev.now _) (by rw [body_mk, if_neg h1, if_pos h2]))
  by_cases h3 : e.f0 = 3
  ·refine st (g := fun _ => some (b ++ [(97 + e.f1 % 256) % 256])) (fun k => by simp only [expr_text.f, lev_prog, Option.bind_some]; rw [if_neg hl, if_neg h1, if_neg h2, if_pos h3, if_pos (by simp; omega)]) (Ev.to (Ev.now _) (by rw [body_mk, if_neg h1, if_neg h2, if_pos h3]))
  by_cases h8 : e.f0 = 8
  ·obtain ⟨x, hx⟩ := not_one hs (.inr h8)
   have hm : x ∈ e.f2 := by rw [hx]; simp
   obtain ⟨kx, ky, kz⟩ := kid x hm
   refine st (g := fun k => (expr_text.f k (b ++ [33]) x.f0 x.f1 x.f2 4).bind fun t => some t) (fun k => by simp only [expr_text.f, lev_prog, Option.bind_some]; rw [if_neg hl, if_neg h1, if_neg h2, if_neg h3, if_pos h8, if_pos (by simp; omega), hx, if_pos (by simp), rd_head]) ?_
   refine Ev.to (Ev.bind (f := fun _ t => some t) (ih x hm (hw.kid hm) (kid_shp hs hm) kx (b ++ [33]) 4 (by simp; omega) (by omega)) (Ev.now _)) ?_
   rw [body_mk, if_neg h1, if_neg h2, if_neg h3, if_pos h8, hx, bodyH_cons]; simp
  by_cases h7 : e.f0 = 7
  ·obtain ⟨x, hx⟩ := not_one hs (.inl h7)
   have hm : x ∈ e.f2 := by rw [hx]; simp
   obtain ⟨kx, ky, kz⟩ := kid x hm
   have pl := par_len 5 x
   refine st (g := fun k => (expr_text.f k b x.f0 x.f1 x.f2 5).bind fun t => (some [42]).bind fun y => if t.length + y.length < 140737488355328 then some (t ++ y) else none) (fun k => by simp only [expr_text.f, lev_prog, Option.bind_some]; rw [if_neg hl, if_neg h1, if_neg h2, if_neg h3, if_neg h8, if_pos h7, hx, if_pos (by simp), rd_head]) ?_
   refine Ev.to (Ev.bind (ih x hm (hw.kid hm) (kid_shp hs hm) kx b 5 (by omega) (by omega)) (by
    simp only [Option.bind_some]
    rw [if_pos (by simp; omega)]
    exact Ev.now _)) ?_
   rw [body_mk, if_neg h1, if_neg h2, if_neg h3, if_neg h8, if_pos h7, hx, bodyH_cons]; simp
  have j0 : ∀ (s least' : Int), wrap64 (lev e.f0 + 1) = least' → least' ≤ 7 → Ev (fun k => expr_text.j0 k b s e.f0 e.f1 e.f2) (b ++ bodies (if s = 0 then [] else [s]) least' true e.f2) := fun s least' hle hl7 =>
   Ev.step (f := fun k => expr_text.l0 k b s e.f2 (e.f2.length : Int) 0 e.f0 e.f1 e.f2) (fun k => by simp only [expr_text.j0]) (loop s least' hle hl7 e.f2 [] rfl b (by omega))
  by_cases h4 : e.f0 = 4
  ·refine st (g := fun k => expr_text.j0 k b 124 e.f0 e.f1 e.f2) (fun k => by simp only [expr_text.f, lev_prog, Option.bind_some]; rw [if_neg hl, if_neg h1, if_neg h2, if_neg h3, if_neg h8, if_neg h7, if_pos h4]) (Ev.to (j0 124 2 (by rw [h4]; simp [lev, wrap64]) (by omega)) ?_)
   rw [body_mk, if_neg h1, if_neg h2, if_neg h3, if_neg h8, if_neg h7, if_pos h4]; rfl
  by_cases h6 : e.f0 = 6
  ·refine st (g := fun k => expr_text.j0 k b 38 e.f0 e.f1 e.f2) (fun k => by simp only [expr_text.f, lev_prog, Option.bind_some]; rw [if_neg hl, if_neg h1, if_neg h2, if_neg h3, if_neg h8, if_neg h7, if_neg h4, if_pos h6]) (Ev.to (j0 38 3 (by rw [h6]; simp [lev, wrap64]) (by omega)) ?_)
   rw [body_mk, if_neg h1, if_neg h2, if_neg h3, if_neg h8, if_neg h7, if_neg h4, if_pos h6]; rfl
  have h5 : e.f0 = 5 := by
   have hk := hs
   rw [shp_mk] at hk
   simp only [Bool.and_eq_true] at hk
   have := hk.1
   unfold opKids at this
   rw [if_neg (by omega), if_neg (by omega)] at this
   by_cases h5 : e.f0 = 5
   ·exact h5
   ·rw [if_neg (by omega)] at this; cases this
  refine st (g := fun k => expr_text.j0 k b 0 e.f0 e.f1 e.f2) (fun k => by simp only [expr_text.f, lev_prog, Option.bind_some]; rw [if_neg hl, if_neg h1, if_neg h2, if_neg h3, if_neg h8, if_neg h7, if_neg h4, if_neg h6]) (Ev.to (j0 0 4 (by rw [h5]; simp [lev, wrap64]) (by omega)) ?_)
  rw [body_mk, if_neg h1, if_neg h2, if_neg h3, if_neg h8, if_neg h7, if_neg h4, if_neg h6]; rfl
 intro b least hb hl7
 have hsz := size_mk e
 by_cases hl : lev e.f0 < least
 ·have bl := body_len e
  refine Ev.to (Ev.step (f := fun k => (expr_text.f k (b ++ [40]) e.f0 e.f1 e.f2 0).bind fun t => (some [41]).bind fun y => if t.length + y.length < 140737488355328 then some (t ++ y) else none) (fun k => by simp only [expr_text.f, lev_prog, Option.bind_some]; rw [if_pos hl, if_pos (by simp; omega)]) (Ev.bind (one (b ++ [40]) 0 ?_ (by have := lev_pos e.f0; omega)) (by
    simp only [Option.bind_some]
    rw [if_pos (by simp; omega)]
    exact Ev.now _))) ?_
  ·simp; omega
  ·unfold par; rw [if_pos hl]; simp
 ·exact Ev.to (one b least (by omega) hl) (by unfold par; rw [if_neg hl])
theorem format_prog (e : S24) (hw : WF e) : Ev (fun k => expr_Format.f k e.f0 e.f1 e.f2) (if Vld e then strOfNums (body e) else ⟨#[]⟩) := by
 refine Ev.congr (f := fun k => (expr_valid.f k e.f0 e.f1 e.f2).bind fun t => if t = true then ((expr_text.f k ([] : List Int) e.f0 e.f1 e.f2 0).bind fun u => some (strOfNums u)) else some (⟨#[]⟩ : ByteArray)) (fun k => by simp only [expr_Format.f]) ?_
 refine Ev.bind (valid_prog e hw) ?_
 by_cases h : Vld e
 ·have ht := text_ev e hw h.2 h.1.1 [] 0 (by have := h.1.1; have := depth_le_size e; simp; omega) (by omega)
  rw [decide_eq_true h, if_pos h]
  simp only [if_true]
  exact Ev.bind (f := fun _ u => some (strOfNums u)) ht (Ev.to (Ev.now _) (by rw [par_zero]; rfl))
 ·rw [decide_eq_false h, if_neg h]
  simp only [if_neg (show ¬ (false = true) by decide)]
  exact Ev.now _
end Go.Proofs.Ytjofkebiacaciaa.T04
end
section
namespace Go.Proofs.Ytjofkebiacaciaa.T04
open Go Go.RowKit Go.Proofs.Ytjofkebiacaciaa.PAll Go.Proofs.YtjofkebiacaciaaW.PrintWords Go.Proofs.YtjofkebiacaciaaW.PrintLast Go.Proofs.YtjofkebiacaciaaW.PrintMore Go.Proofs.Ytjofkebiacaciaa.AllRead24
set_option linter.all false
def hd (R : List Int) : Int := R.headD 0
def beg (c : Int) : Prop := c = 33 ∨ c = 48 ∨ c = 49 ∨ c = 40 ∨ (97 ≤ c ∧ c < 103)
instance (c : Int) : Decidable (beg c) := by unfold beg; infer_instance
structure Txt (s : ByteArray) (L : List Int) : Prop where
 eq : s = strOfNums L
 ch : ∀ c, c ∈ L → 33 ≤ c ∧ c ≤ 124
 len : L.length ≤ 4096
theorem strOf_size' (a : List Int) : (strOfNums a).size = a.length := by simp [strOfNums, ByteArray.size]
theorem Txt.size {s : ByteArray} {L : List Int} (h : Txt s L) : s.size = L.length := by rw [h.eq, strOf_size']
theorem Txt.at_ {s : ByteArray} {P R : List Int} {c : Int} (h : Txt s (P ++ c :: R)) : Go.Proofs.YtjofkebiacaciaaW.PrintWords.bt s (P.length : Int) = c := by
 have hc := h.ch c (by simp)
 have hlt : ((P.length : Int)).toNat < s.size := by rw [h.size]; simp
 unfold Go.Proofs.YtjofkebiacaciaaW.PrintWords.bt
 rw [dif_pos hlt]
 have e1 : s[((P.length : Int)).toNat]'hlt = UInt8.ofNat c.toNat := by
  have he := h.eq
  subst he
  show (strOfNums (P ++ c :: R)).data[((P.length : Int)).toNat]'hlt = _
  simp [strOfNums]
 rw [e1]
 have : (UInt8.ofNat c.toNat).toNat = c.toNat := by
  rw [UInt8.toNat_ofNat']; omega
 rw [this]; omega
theorem Txt.here {s : ByteArray} {P R : List Int} {c : Int} (h : Txt s (P ++ c :: R)) : (P.length : Int) < (s.size : Int) := by rw [h.size]; simp; omega
theorem Txt.end_ {s : ByteArray} {P : List Int} (h : Txt s (P ++ [])) : ¬ (P.length : Int) < (s.size : Int) := by rw [h.size]; simp
theorem Txt.next {s : ByteArray} {P R : List Int} {c : Int} (h : Txt s (P ++ c :: R)) : wrap64 ((P.length : Int) + 1) = ((P ++ [c]).length : Int) := by
 have := h.len
 simp at this ⊢
 rw [w64 (by omega) (by omega)]
theorem Txt.hd {s : ByteArray} {P R : List Int} (h : Txt s (P ++ R)) : R = [] ∧ hd R = 0 ∨ 33 ≤ hd R ∧ hd R ≤ 124 := by
 cases R with
 | nil => exact .inl ⟨rfl, rfl⟩
 | cons c R => exact .inr (h.ch c (by simp))
theorem peek_ev {s : ByteArray} {P R : List Int} (h : Txt s (P ++ R)) : Ev (fun k => expr_parser_peek.f k s 6 (P.length : Int)) (hd R, s, 6, (P.length : Int)) := by
 cases R with
 | nil =>
  have he := h.end_
  exact Ev.step (f := fun _ => some (0, s, 6, (P.length : Int))) (fun k => by simp only [expr_parser_peek.f, expr_parser_peek.l0]; rw [if_neg he, if_pos (by omega)]) (Ev.now _)
 | cons c R =>
  have hh := h.here
  have hb := h.at_
  have hc := h.ch c (by simp)
  exact Ev.step (f := fun _ => some (c, s, 6, (P.length : Int))) (fun k => by simp only [expr_parser_peek.f, expr_parser_peek.l0]; rw [if_pos hh, if_pos (ge0 _), hb, if_neg (by omega), if_neg (by omega)]) (Ev.now _)
theorem is_ev {s : ByteArray} {P R : List Int} (h : Txt s (P ++ R)) (c : Int) (hc : c ≠ 0) : Ev (fun k => expr_parser_is.f k s 6 (P.length : Int) c) (decide (hd R = c), s, 6, (P.length : Int)) := by
 refine Ev.congr (f := fun k => (expr_parser_peek.f k s 6 (P.length : Int)).bind fun t => if t.1 = c then some (decide (t.2.2.2 < (t.2.1.size : Int)), t.2) else some (false, t.2)) (fun k => by simp only [expr_parser_is.f]) (Ev.bind (peek_ev h) ?_)
 by_cases e : hd R = c
 ·simp only [if_pos e, decide_eq_true e]
  refine Ev.to (Ev.now _) ?_
  cases R with
  | nil => exact absurd e.symm hc
  | cons d R => rw [decide_eq_true h.here]
 ·simp only [if_neg e, decide_eq_false e]
  exact Ev.now _
theorem letter_ev {s : ByteArray} {P R : List Int} (h : Txt s (P ++ R)) : Ev (fun k => expr_parser_letter.f k s 6 (P.length : Int)) (decide (97 ≤ hd R ∧ hd R < 103), s, 6, (P.length : Int)) := by
 refine Ev.congr (f := fun k => (expr_parser_peek.f k s 6 (P.length : Int)).bind fun t => if t.1 ≥ 97 then some (decide (((t.1 - 97) % 256) < t.2.2.1), t.2.1, t.2.2.1, t.2.2.2) else some (false, t.2.1, t.2.2.1, t.2.2.2)) (fun k => by simp only [expr_parser_letter.f]) (Ev.bind (peek_ev h) ?_)
 have hh := h.hd
 by_cases e : hd R ≥ 97
 ·have : decide ((hd R - 97) % 256 < 6) = decide (97 ≤ hd R ∧ hd R < 103) := by rw [decide_eq_decide]; omega
  simp only [if_pos e, this]; exact Ev.now _
 ·have : decide (97 ≤ hd R ∧ hd R < 103) = false := decide_eq_false (by omega)
  simp only [if_neg e, this]; exact Ev.now _
theorem begins_ev {s : ByteArray} {P R : List Int} (h : Txt s (P ++ R)) : Ev (fun k => expr_parser_begins.f k s 6 (P.length : Int)) (decide (beg (hd R)), s, 6, (P.length : Int)) := by
 refine Ev.congr (fun k => by simp only [expr_parser_begins.f]; rfl) (Ev.bind (is_ev h 33 (by decide)) ?_)
 unfold beg
 by_cases e1 : hd R = 33
 ·simp only [e1, true_or, decide_true, if_true]; exact Ev.now _
 simp only [decide_eq_false e1, if_neg (show ¬ (false = true) by decide)]
 refine Ev.bind (is_ev h 48 (by decide)) ?_
 by_cases e2 : hd R = 48
 ·simp only [e2, true_or, or_true, decide_true, if_true]; exact Ev.now _
 simp only [decide_eq_false e2, if_neg (show ¬ (false = true) by decide)]
 refine Ev.bind (is_ev h 49 (by decide)) ?_
 by_cases e3 : hd R = 49
 ·simp only [e3, true_or, or_true, decide_true, if_true]; exact Ev.now _
 simp only [decide_eq_false e3, if_neg (show ¬ (false = true) by decide)]
 refine Ev.bind (is_ev h 40 (by decide)) ?_
 by_cases e4 : hd R = 40
 ·simp only [e4, true_or, or_true, decide_true, if_true]; exact Ev.now _
 simp only [decide_eq_false e4, if_neg (show ¬ (false = true) by decide)]
 refine Ev.bind (f := fun _ t => some (t.1, t.2.1, t.2.2.1, t.2.2.2)) (letter_ev h) (Ev.to (Ev.now _) ?_)
 simp [e1, e2, e3, e4]
theorem several_one (o : Int) (e : S24) : expr_several.f o [e] = some (e.f0, e.f1, e.f2) := by
 unfold expr_several.f; rw [if_pos (by simp), if_pos (by simp), rd_head]
theorem several_more (o : Int) (l : List S24) (h : 2 ≤ l.length) : expr_several.f o l = some (o, 0, l) := by
 unfold expr_several.f; rw [if_neg (by omega)]
def nots : Nat → S24 → S24
 | 0, e => e
 | m + 1, e => nots m ⟨8, 0, [e]⟩
def Gives (g : Nat → Option (Int × Int × (List S24) × ByteArray × Int × Int)) (s : ByteArray) (e : S24) (Q : List Int) : Prop := Ev g (e.f0, e.f1, e.f2, s, 6, (Q.length : Int))
theorem nots_ev (D : Nat) (s : ByteArray) (q : Int) : ∀ (m : Nat) (e : S24), m ≤ 5000 → Ev (fun k => @expr_parser_unary.l1 (atomK D) k m s 6 q e.f0 e.f1 e.f2) ((nots m e).f0, (nots m e).f1, (nots m e).f2, s, 6, q) := by
 intro m
 induction m with
 | zero => intro e _; exact Ev.step (f := fun _ => some (e.f0, e.f1, e.f2, s, 6, q)) (fun k => by simp only [expr_parser_unary.l1]; rw [if_neg (by decide)]) (Ev.now _)
 | succ m ih =>
  intro e hm
  cases e with | mk a b c =>
  refine Ev.step (f := fun k => @expr_parser_unary.l1 (atomK D) k m s 6 q 8 0 [⟨a, b, c⟩]) (fun k => by simp only [expr_parser_unary.l1]; rw [if_pos (by omega), show ((m + 1 : Nat) : Int) - 1 = (m : Int) from by omega, w64 (by omega) (by omega)]) (ih ⟨8, 0, [⟨a, b, c⟩]⟩ (by omega))
def Post (D : Nat) (s : ByteArray) (P T : List Int) (e : S24) : Prop := ∀ v, Ev (fun k => expr_parser_postfix.l0 k s 6 ((P ++ T).length : Int) e.f0 e.f1 e.f2) v → Ev (fun k => @expr_parser_postfix.f (atomK D) k s 6 (P.length : Int)) v
theorem lift12 {D : Nat} {s : ByteArray} {P T R : List Int} {e : S24} (h : Txt s (P ++ (T ++ R))) (h1 : Post D s P T e) (hn : hd (T ++ R) ≠ 33) (hr : hd R ≠ 42) (m : Nat) (hm : m ≤ 5000) :
  Gives (fun k => @expr_parser_unary.l0 (atomK D) k m s 6 (P.length : Int)) s (nots m e) (P ++ T) := by
 have hi := is_ev h 33 (by decide)
 rw [decide_eq_false hn] at hi
 refine Ev.step (fun k => by simp only [expr_parser_unary.l0]; rfl) (Ev.bind hi ?_)
 simp only [if_neg (show ¬ (false = true) by decide)]
 have h2 : Txt s ((P ++ T) ++ R) := by rw [List.append_assoc]; exact h
 have hj := is_ev h2 42 (by decide)
 rw [decide_eq_false hr] at hj
 have l0 : Ev (fun k => expr_parser_postfix.l0 k s 6 ((P ++ T).length : Int) e.f0 e.f1 e.f2) (e.f0, e.f1, e.f2, s, 6, ((P ++ T).length : Int)) := by
  refine Ev.step (fun k => by simp only [expr_parser_postfix.l0]; rfl) (Ev.bind hj ?_)
  simp only [if_neg (show ¬ (false = true) by decide)]
  exact Ev.now _
 exact Ev.bind (h1 _ l0) (nots_ev D s _ m e hm)
theorem lift23 {D : Nat} {s : ByteArray} {P T R : List Int} {e : S24} (h : Txt s (P ++ (T ++ R))) (h1 : Gives (fun k => @expr_parser_unary.l0 (atomK D) k 0 s 6 (P.length : Int)) s e (P ++ T)) (hr : ¬ beg (hd R)) :
  Gives (fun k => @expr_parser_cat.f (atomK D) k s 6 (P.length : Int)) s e (P ++ T) := by
 have h2 : Txt s ((P ++ T) ++ R) := by rw [List.append_assoc]; exact h
 have hb := begins_ev h2
 rw [decide_eq_false hr] at hb
 refine Ev.congr (fun k => by simp only [expr_parser_cat.f, expr_parser_unary.f]; rfl) (Ev.bind h1 ?_)
 refine Ev.step (fun k => by simp only [expr_parser_cat.l0]; rfl) (Ev.bind hb ?_)
 simp only [if_neg (show ¬ (false = true) by decide)]
 rw [several_one]
 exact Ev.now _
theorem lift34 {D : Nat} {s : ByteArray} {P T R : List Int} {e : S24} (h : Txt s (P ++ (T ++ R))) (h1 : Gives (fun k => @expr_parser_cat.f (atomK D) k s 6 (P.length : Int)) s e (P ++ T)) (hr : hd R ≠ 38) :
  Gives (fun k => @expr_parser_and.f (atomK D) k s 6 (P.length : Int)) s e (P ++ T) := by
 have h2 : Txt s ((P ++ T) ++ R) := by rw [List.append_assoc]; exact h
 have hb := is_ev h2 38 (by decide)
 rw [decide_eq_false hr] at hb
 refine Ev.congr (f := fun k => (@expr_parser_listC.f (atomK D) k s 6 (P.length : Int) 6 38).bind fun t => some (t.1, t.2.1, t.2.2.1, t.2.2.2.1, t.2.2.2.2.1, t.2.2.2.2.2)) (fun k => by simp only [expr_parser_and.f]) ?_
 refine Ev.bind (f := fun _ t => some (t.1, t.2.1, t.2.2.1, t.2.2.2.1, t.2.2.2.2.1, t.2.2.2.2.2)) (a := (e.f0, e.f1, e.f2, s, 6, ((P ++ T).length : Int))) ?_ (Ev.now _)
 refine Ev.congr (fun k => by simp only [expr_parser_listC.f]; rfl) (Ev.bind h1 ?_)
 refine Ev.step (fun k => by simp only [expr_parser_listC.l0]; rfl) (Ev.bind hb ?_)
 simp only [if_neg (show ¬ (false = true) by decide)]
 rw [several_one]
 exact Ev.now _
theorem lift45 {D : Nat} {s : ByteArray} {P T R : List Int} {e : S24} (h : Txt s (P ++ (T ++ R))) (h1 : Gives (fun k => @expr_parser_and.f (atomK D) k s 6 (P.length : Int)) s e (P ++ T)) (hr : hd R ≠ 124) :
  Gives (fun k => @expr_parser_union.f (atomK D) k s 6 (P.length : Int)) s e (P ++ T) := by
 have h2 : Txt s ((P ++ T) ++ R) := by rw [List.append_assoc]; exact h
 have hb := is_ev h2 124 (by decide)
 rw [decide_eq_false hr] at hb
 refine Ev.congr (f := fun k => (@expr_parser_listA.f (atomK D) k s 6 (P.length : Int) 4 124).bind fun t => some (t.1, t.2.1, t.2.2.1, t.2.2.2.1, t.2.2.2.2.1, t.2.2.2.2.2)) (fun k => by simp only [expr_parser_union.f]) ?_
 refine Ev.bind (f := fun _ t => some (t.1, t.2.1, t.2.2.1, t.2.2.2.1, t.2.2.2.2.1, t.2.2.2.2.2)) (a := (e.f0, e.f1, e.f2, s, 6, ((P ++ T).length : Int))) ?_ (Ev.now _)
 refine Ev.congr (fun k => by simp only [expr_parser_listA.f]; rfl) (Ev.bind h1 ?_)
 refine Ev.step (fun k => by simp only [expr_parser_listA.l0]; rfl) (Ev.bind hb ?_)
 simp only [if_neg (show ¬ (false = true) by decide)]
 rw [several_one]
 exact Ev.now _
end Go.Proofs.Ytjofkebiacaciaa.T04
end
section
namespace Go.Proofs.Ytjofkebiacaciaa.T04
open Go Go.RowKit Go.Proofs.Ytjofkebiacaciaa.PAll Go.Proofs.YtjofkebiacaciaaW.PrintWords Go.Proofs.YtjofkebiacaciaaW.PrintLast Go.Proofs.YtjofkebiacaciaaW.PrintMore Go.Proofs.Ytjofkebiacaciaa.AllRead24
set_option linter.all false
theorem hd_cons (c : Int) (R : List Int) : hd (c :: R) = c := rfl
theorem hd_app {A : List Int} (h : A ≠ []) (R : List Int) : hd (A ++ R) = hd A := by
 cases A with
 | nil => exact absurd rfl h
 | cons c A => rfl
theorem shp_cells {e : S24} (h : shp 6 e = true) : (e.f0 = 1 ∧ e = ⟨1, 0, []⟩) ∨ (e.f0 = 2 ∧ e = ⟨2, 0, []⟩) ∨ (e.f0 = 3 ∧ 0 ≤ e.f1 ∧ e.f1 < 6 ∧ e = ⟨3, e.f1, []⟩) ∨ (e.f0 = 7 ∧ ∃ x, e = ⟨7, 0, [x]⟩) ∨ (e.f0 = 8 ∧ ∃ x, e = ⟨8, 0, [x]⟩) ∨ ((e.f0 = 4 ∨ e.f0 = 5 ∨ e.f0 = 6) ∧ e = ⟨e.f0, 0, e.f2⟩ ∧ 2 ≤ e.f2.length) := by
 have ho := h
 rw [shp_mk] at h
 simp only [Bool.and_eq_true] at h
 obtain ⟨h1, h2, _⟩ := h
 obtain ⟨o, a, l⟩ := e
 simp only at *
 unfold opKids at h1
 unfold letOK at h2
 by_cases c1 : o = 1
 ·subst c1
  simp at h1 h2
  subst h1 h2; exact .inl ⟨rfl, rfl⟩
 by_cases c2 : o = 2
 ·subst c2
  simp at h1 h2
  subst h1 h2; exact .inr (.inl ⟨rfl, rfl⟩)
 by_cases c3 : o = 3
 ·subst c3
  simp at h1 h2
  subst h1; exact .inr (.inr (.inl ⟨rfl, h2.1, h2.2, rfl⟩))
 rw [if_neg (by omega)] at h1
 rw [if_neg c3] at h2
 have ha : a = 0 := of_decide_eq_true h2
 subst ha
 by_cases c7 : o = 7
 ·subst c7
  simp at h1
  obtain ⟨x, rfl⟩ := List.length_eq_one_iff.mp h1
  exact .inr (.inr (.inr (.inl ⟨rfl, x, rfl⟩)))
 by_cases c8 : o = 8
 ·subst c8
  simp at h1
  obtain ⟨x, rfl⟩ := List.length_eq_one_iff.mp h1
  exact .inr (.inr (.inr (.inr (.inl ⟨rfl, x, rfl⟩))))
 rw [if_neg (by omega)] at h1
 by_cases c4 : o = 4 ∨ o = 5 ∨ o = 6
 ·rw [if_pos c4] at h1
  exact .inr (.inr (.inr (.inr (.inr ⟨c4, rfl, of_decide_eq_true h1⟩))))
 ·rw [if_neg c4] at h1; cases h1
theorem body_hd (e : S24) : shp 6 e = true → body e ≠ [] ∧ beg (hd (body e)) ∧ (e.f0 ≠ 8 → e.f0 ≠ 4 → e.f0 ≠ 5 → e.f0 ≠ 6 → hd (body e) ≠ 33) := by
 induction e using ind with
 | h e ih =>
 intro hs
 have hp : ∀ (least : Int) x, x ∈ e.f2 → par least x ≠ [] ∧ beg (hd (par least x)) := by
  intro least x hx
  have := ih x hx (kid_shp hs hx)
  unfold par
  split
  ·exact ⟨by simp, by show beg 40; decide⟩
  ·exact ⟨this.1, this.2.1⟩
 have h5 : ∀ x, x ∈ e.f2 → hd (par 5 x) ≠ 33 := by
  intro x hx
  have := ih x hx (kid_shp hs hx)
  unfold par
  split
  ·show (40 : Int) ≠ 33; decide
  ·rename_i h
   unfold lev at h
   refine this.2.2 ?_ ?_ ?_ ?_ <;> (intro h'; simp [h'] at h)
 have hb : ∀ (sep : List Int) (least : Int), 2 ≤ e.f2.length → bodies sep least true e.f2 ≠ [] ∧ beg (hd (bodies sep least true e.f2)) := by
  intro sep least hl
  cases hf : e.f2 with
  | nil => rw [hf] at hl; simp at hl
  | cons x r =>
   obtain ⟨p1, p2⟩ := hp least x (by rw [hf]; simp)
   rw [bodies_cons]
   simp only [if_true, List.nil_append]
   exact ⟨by simp [p1], by rw [hd_app p1]; exact p2⟩
 rw [body_mk]
 rcases shp_cells hs with ⟨h, he⟩ | ⟨h, he⟩ | ⟨h, h1, h2, he⟩ | ⟨h, x, he⟩ | ⟨h, x, he⟩ | ⟨h, he, hl⟩
 ·rw [if_pos h]; exact ⟨by simp, by show beg 48; decide, fun _ _ _ _ => by show (48 : Int) ≠ 33; decide⟩
 ·rw [if_neg (by omega), if_pos h]; exact ⟨by simp, by show beg 49; decide, fun _ _ _ _ => by show (49 : Int) ≠ 33; decide⟩
 ·rw [if_neg (by omega), if_neg (by omega), if_pos h]
  have : (97 + e.f1 % 256) % 256 = 97 + e.f1 := by omega
  rw [this]
  exact ⟨by simp, by show beg (97 + e.f1); unfold beg; omega, fun _ _ _ _ => by show 97 + e.f1 ≠ 33; omega⟩
 ·have hx : e.f2 = [x] := by rw [he]
  obtain ⟨p1, p2⟩ := hp 5 x (by rw [hx]; simp)
  have p3 := h5 x (by rw [hx]; simp)
  rw [if_neg (by omega), if_neg (by omega), if_neg (by omega), if_neg (by omega), if_pos h, hx, bodyH_cons]
  exact ⟨by simp [p1], by rw [hd_app p1]; exact p2, fun _ _ _ _ => by rw [hd_app p1]; exact p3⟩
 ·rw [if_neg (by omega), if_neg (by omega), if_neg (by omega), if_pos h]
  exact ⟨by simp, by show beg 33; decide, fun h8 => absurd h h8⟩
 ·rw [if_neg (by omega), if_neg (by omega), if_neg (by omega), if_neg (by omega), if_neg (by omega)]
  rcases h with h | h | h
  ·rw [if_pos h]; exact ⟨(hb _ _ hl).1, (hb _ _ hl).2, fun _ h4 => absurd h h4⟩
  ·rw [if_neg (by omega), if_neg (by omega)]; exact ⟨(hb _ _ hl).1, (hb _ _ hl).2, fun _ _ h5 => absurd h h5⟩
  ·rw [if_neg (by omega), if_pos h]; exact ⟨(hb _ _ hl).1, (hb _ _ hl).2, fun _ _ _ h6 => absurd h h6⟩
theorem par_hd {e : S24} (hs : shp 6 e = true) (least : Int) : par least e ≠ [] ∧ beg (hd (par least e)) := by
 have := body_hd e hs
 unfold par
 split
 ·exact ⟨by simp, by show beg 40; decide⟩
 ·exact ⟨this.1, this.2.1⟩
theorem beg_ne {c : Int} (h : beg c) : c ≠ 42 ∧ c ≠ 38 ∧ c ≠ 124 ∧ c ≠ 41 := by unfold beg at h; omega
theorem body_chars (e : S24) : shp 6 e = true → ∀ c, c ∈ body e → 33 ≤ c ∧ c ≤ 124 := by
 induction e using ind with
 | h e ih =>
 intro hs
 have hp : ∀ (least : Int) x, x ∈ e.f2 → ∀ c, c ∈ par least x → 33 ≤ c ∧ c ≤ 124 := by
  intro least x hx c hc
  have := ih x hx (kid_shp hs hx)
  unfold par at hc
  split at hc
  ·simp at hc
   rcases hc with h | h | h
   ·omega
   ·exact this c h
   ·omega
  ·exact this c hc
 have hb : ∀ (sep : List Int), (∀ c, c ∈ sep → 33 ≤ c ∧ c ≤ 124) → ∀ (least : Int) (l : List S24), (∀ x, x ∈ l → x ∈ e.f2) → ∀ b c, c ∈ bodies sep least b l → 33 ≤ c ∧ c ≤ 124 := by
  intro sep hsep least l
  induction l with
  | nil => intro _ b c hc; simp [bodies] at hc
  | cons x r ihr =>
   intro hm b c hc
   rw [bodies_cons] at hc
   simp only [List.mem_append] at hc
   rcases hc with h | h | h
   ·cases b
    ·simp at h; exact hsep c h
    ·simp at h
   ·exact hp least x (hm x (by simp)) c h
   ·exact ihr (fun y hy => hm y (by simp [hy])) false c h
 intro c hc
 rw [body_mk] at hc
 rcases shp_cells hs with ⟨h, he⟩ | ⟨h, he⟩ | ⟨h, h1, h2, he⟩ | ⟨h, x, he⟩ | ⟨h, x, he⟩ | ⟨h, he, hl⟩
 ·rw [if_pos h] at hc; simp at hc; omega
 ·rw [if_neg (by omega), if_pos h] at hc; simp at hc; omega
 ·rw [if_neg (by omega), if_neg (by omega), if_pos h] at hc; simp at hc; omega
 ·have hx : e.f2 = [x] := by rw [he]
  rw [if_neg (by omega), if_neg (by omega), if_neg (by omega), if_neg (by omega), if_pos h, hx, bodyH_cons] at hc
  simp only [List.mem_append] at hc
  rcases hc with h | h
  ·exact hp 5 x (by rw [hx]; simp) c h
  ·simp at h; omega
 ·have hx : e.f2 = [x] := by rw [he]
  rw [if_neg (by omega), if_neg (by omega), if_neg (by omega), if_pos h, hx, bodyH_cons] at hc
  simp only [List.mem_append] at hc
  rcases hc with h | h
  ·simp at h; omega
  ·exact hp 4 x (by rw [hx]; simp) c h
 ·rw [if_neg (by omega), if_neg (by omega), if_neg (by omega), if_neg (by omega), if_neg (by omega)] at hc
  split at hc
  ·exact hb _ (by simp) _ e.f2 (fun _ h => h) _ c hc
  ·split at hc
   ·exact hb _ (by simp) _ e.f2 (fun _ h => h) _ c hc
   ·exact hb _ (by simp) _ e.f2 (fun _ h => h) _ c hc
theorem body_deep (e : S24) : shp 6 e = true → depth e ≤ (body e).length := by
 induction e using ind with
 | h e ih =>
 intro hs
 have hp : ∀ (least : Int) x, x ∈ e.f2 → depth x ≤ (par least x).length := by
  intro least x hx
  have := ih x hx (kid_shp hs hx)
  unfold par
  split
  ·simp; omega
  ·exact this
 have hb : ∀ (sep : List Int) (least : Int) (l : List S24), (∀ x, x ∈ l → x ∈ e.f2) → ∀ b, depths l + (l.length - 1) ≤ (bodies sep least b l).length := by
  intro sep least l
  induction l with
  | nil => intro _ b; simp [bodies, depths]
  | cons x r ihr =>
   intro hm b
   have h1 := hp least x (hm x (by simp))
   have h2 := ihr (fun y hy => hm y (by simp [hy])) false
   have h3 := depth_pos x
   rw [bodies_cons, depths]
   cases r with
   | nil => simp [depths, bodies]; omega
   | cons y r =>
    have h4 := depth_pos y
    simp [depths] at h2 ⊢
    omega
 have hz := depth_mk e
 rw [body_mk]
 rcases shp_cells hs with ⟨h, he⟩ | ⟨h, he⟩ | ⟨h, h1, h2, he⟩ | ⟨h, x, he⟩ | ⟨h, x, he⟩ | ⟨h, he, hl⟩
 ·rw [if_pos h, hz, show e.f2 = [] from by rw [he]]; simp [depths]
 ·rw [if_neg (by omega), if_pos h, hz, show e.f2 = [] from by rw [he]]; simp [depths]
 ·rw [if_neg (by omega), if_neg (by omega), if_pos h, hz, show e.f2 = [] from by rw [he]]; simp [depths]
 ·have hx : e.f2 = [x] := by rw [he]
  have := hp 5 x (by rw [hx]; simp)
  rw [if_neg (by omega), if_neg (by omega), if_neg (by omega), if_neg (by omega), if_pos h, hz, hx, bodyH_cons]
  simp [depths]; omega
 ·have hx : e.f2 = [x] := by rw [he]
  have := hp 4 x (by rw [hx]; simp)
  rw [if_neg (by omega), if_neg (by omega), if_neg (by omega), if_pos h, hz, hx, bodyH_cons]
  simp [depths]; omega
 ·rw [if_neg (by omega), if_neg (by omega), if_neg (by omega), if_neg (by omega), if_neg (by omega), hz]
  split
  ·have := hb [124] 2 e.f2 (fun _ h => h) true; omega
  ·split
   ·have := hb [38] 3 e.f2 (fun _ h => h) true; omega
   ·have := hb [] 4 e.f2 (fun _ h => h) true; omega
theorem atom_empty {D : Nat} {s : ByteArray} {P R : List Int} (h : Txt s (P ++ (48 :: R))) : Gives (fun k => @expr_parser_atom.f (atomK (D + 1)) k s 6 (P.length : Int)) s ⟨1, 0, []⟩ (P ++ [48]) := by
 show Ev (fun k => @expr_parser_atomS.f (atomK D) k s 6 (P.length : Int)) _
 refine Ev.congr (fun k => by simp only [expr_parser_atomS.f]; rfl) (Ev.bind (is_ev h 48 (by decide)) ?_)
 simp only [hd_cons, decide_true, if_true, simplify_Empty.f, Option.bind_some, h.next]
 exact Ev.now _
theorem atom_unit {D : Nat} {s : ByteArray} {P R : List Int} (h : Txt s (P ++ (49 :: R))) : Gives (fun k => @expr_parser_atom.f (atomK (D + 1)) k s 6 (P.length : Int)) s ⟨2, 0, []⟩ (P ++ [49]) := by
 show Ev (fun k => @expr_parser_atomS.f (atomK D) k s 6 (P.length : Int)) _
 refine Ev.congr (fun k => by simp only [expr_parser_atomS.f]; rfl) (Ev.bind (is_ev h 48 (by decide)) ?_)
 simp only [hd_cons, show decide ((49 : Int) = 48) = false from by decide, if_neg (show ¬ (false = true) by decide)]
 refine Ev.bind (is_ev h 49 (by decide)) ?_
 simp only [hd_cons, decide_true, if_true, simplify_Unit.f, Option.bind_some, h.next]
 exact Ev.now _
theorem atom_letter {D : Nat} {s : ByteArray} {P R : List Int} {a : Int} (h0 : 0 ≤ a) (h1 : a < 6) (h : Txt s (P ++ ((97 + a) :: R))) : Gives (fun k => @expr_parser_atom.f (atomK (D + 1)) k s 6 (P.length : Int)) s ⟨3, a, []⟩ (P ++ [97 + a]) := by
 show Ev (fun k => @expr_parser_atomS.f (atomK D) k s 6 (P.length : Int)) _
 have hl := h.len
 simp at hl
 have h48 := is_ev h 48 (by decide)
 rw [decide_eq_false (show ¬ (hd ((97 + a) :: R) = 48) by rw [hd_cons]; omega)] at h48
 have h49 := is_ev h 49 (by decide)
 rw [decide_eq_false (show ¬ (hd ((97 + a) :: R) = 49) by rw [hd_cons]; omega)] at h49
 have hl3 := letter_ev h
 rw [decide_eq_true (show 97 ≤ hd ((97 + a) :: R) ∧ hd ((97 + a) :: R) < 103 by rw [hd_cons]; omega)] at hl3
 refine Ev.congr (fun k => by simp only [expr_parser_atomS.f]; rfl) (Ev.bind h48 ?_)
 simp only [if_neg (show ¬ (false = true) by decide)]
 refine Ev.bind h49 ?_
 simp only [if_neg (show ¬ (false = true) by decide)]
 refine Ev.bind hl3 ?_
 have e1 : wrap64 (wrap64 ((P.length : Int) + 1) - 1) = (P.length : Int) := by rw [w64 (i := (P.length : Int) + 1) (by omega) (by omega), w64 (by omega) (by omega)]; omega
 simp only [if_true, e1]
 rw [h.at_, show (97 + a - 97) % 256 = a from by omega, h.next]
 simp only [if_pos (ge0 P.length), if_pos h.here]
 exact Ev.now _
theorem atom_paren {D : Nat} {s : ByteArray} {P B R : List Int} {e : S24} (h : Txt s (P ++ (40 :: (B ++ (41 :: R))))) (hu : Gives (fun k => @expr_parser_union.f (atomK D) k s 6 ((P ++ [40]).length : Int)) s e ((P ++ [40]) ++ B)) : Gives (fun k => @expr_parser_atom.f (atomK (D + 1)) k s 6 (P.length : Int)) s e (P ++ ([40] ++ B ++ [41])) := by
 show Ev (fun k => @expr_parser_atomS.f (atomK D) k s 6 (P.length : Int)) _
 have h2 : Txt s (((P ++ [40]) ++ B) ++ (41 :: R)) := by simpa using h
 refine Ev.congr (fun k => by simp only [expr_parser_atomS.f]; rfl) (Ev.bind (is_ev h 48 (by decide)) ?_)
 simp only [hd_cons, show decide ((40 : Int) = 48) = false from by decide, if_neg (show ¬ (false = true) by decide)]
 refine Ev.bind (is_ev h 49 (by decide)) ?_
 simp only [hd_cons, show decide ((40 : Int) = 49) = false from by decide, if_neg (show ¬ (false = true) by decide)]
 refine Ev.bind (letter_ev h) ?_
 simp only [hd_cons, show decide ((97 : Int) ≤ 40 ∧ (40 : Int) < 103) = false from by decide, if_neg (show ¬ (false = true) by decide)]
 refine Ev.bind (is_ev h 40 (by decide)) ?_
 simp only [hd_cons, decide_true, if_true, h.next]
 refine Ev.bind hu ?_
 refine Ev.bind (is_ev h2 41 (by decide)) ?_
 simp only [hd_cons, decide_true, if_true, h2.next]
 refine Ev.to (Ev.now _) ?_
 simp
theorem post_of_atom {D : Nat} {s : ByteArray} {P T : List Int} {e : S24} (h : Gives (fun k => @expr_parser_atom.f (atomK D) k s 6 (P.length : Int)) s e (P ++ T)) : Post D s P T e := by
 intro v hv
 exact Ev.congr (fun k => by simp only [expr_parser_postfix.f]; rfl) (Ev.bind h hv)
def S1 (e : S24) : Prop := ∀ D, depth e + 1 ≤ D → ∀ s P R, Txt s (P ++ (par 5 e ++ R)) → Post D s P (par 5 e) e
def S2 (e : S24) : Prop := ∀ D, depth e + 1 ≤ D → ∀ s P R (m : Nat), m + size e ≤ 5000 → Txt s (P ++ (par 4 e ++ R)) → hd R ≠ 42 → Gives (fun k => @expr_parser_unary.l0 (atomK D) k m s 6 (P.length : Int)) s (nots m e) (P ++ par 4 e)
def S3 (e : S24) : Prop := ∀ D, depth e + 1 ≤ D → ∀ s P R, Txt s (P ++ (par 3 e ++ R)) → hd R ≠ 42 → ¬ beg (hd R) → Gives (fun k => @expr_parser_cat.f (atomK D) k s 6 (P.length : Int)) s e (P ++ par 3 e)
def S4 (e : S24) : Prop := ∀ D, depth e + 1 ≤ D → ∀ s P R, Txt s (P ++ (par 2 e ++ R)) → hd R ≠ 42 → ¬ beg (hd R) → hd R ≠ 38 → Gives (fun k => @expr_parser_and.f (atomK D) k s 6 (P.length : Int)) s e (P ++ par 2 e)
def S5 (e : S24) : Prop := ∀ D, depth e ≤ D → ∀ s P R, Txt s (P ++ (body e ++ R)) → hd R ≠ 42 → ¬ beg (hd R) → hd R ≠ 38 → hd R ≠ 124 → Gives (fun k => @expr_parser_union.f (atomK D) k s 6 (P.length : Int)) s e (P ++ body e)
theorem cat_loop {D : Nat} {s : ByteArray} {R : List Int} (hr : hd R ≠ 42) (hb : ¬ beg (hd R)) (l : List S24) (hl : 2 ≤ l.length) (hz : sizes l ≤ 400) (hs : ∀ x, x ∈ l → shp 6 x = true) (hk : ∀ x, x ∈ l → S2 x) (hd' : ∀ x, x ∈ l → depth x + 1 ≤ D) : ∀ (r pre : List S24), l = pre ++ r → ∀ P, Txt s (P ++ (bodies [] 4 false r ++ R)) →
  Gives (fun k => @expr_parser_cat.l0 (atomK D) k pre s 6 (P.length : Int)) s ⟨5, 0, l⟩ (P ++ bodies [] 4 false r) := by
 intro r
 induction r with
 | nil =>
  intro pre hp P h
  have h2 : Txt s (P ++ R) := by simpa [bodies] using h
  have hbg := begins_ev h2
  rw [decide_eq_false hb] at hbg
  refine Ev.step (fun k => by simp only [expr_parser_cat.l0]; rfl) (Ev.bind hbg ?_)
  simp only [if_neg (show ¬ (false = true) by decide)]
  have : pre = l := by rw [hp]; simp
  rw [this, several_more 5 l hl]
  refine Ev.to (Ev.now _) ?_
  simp [bodies]
 | cons x r ihr =>
  intro pre hp P h
  have hx : x ∈ l := by rw [hp]; simp
  obtain ⟨q1, q2⟩ := par_hd (hs x hx) 4
  rw [bodies_cons] at h
  simp only [if_neg (show ¬ (false = true) by decide), List.nil_append] at h
  have h1 : Txt s (P ++ (par 4 x ++ (bodies [] 4 false r ++ R))) := by simpa using h
  have hbg := begins_ev h1
  rw [hd_app q1, decide_eq_true q2] at hbg
  have hr' : hd (bodies [] 4 false r ++ R) ≠ 42 := by
   cases r with
   | nil => simpa [bodies] using hr
   | cons y r =>
    obtain ⟨p1, p2⟩ := par_hd (hs y (by rw [hp]; simp)) 4
    rw [bodies_cons]
    simp only [if_neg (show ¬ (false = true) by decide), List.nil_append, List.append_assoc]
    rw [hd_app p1]; exact (beg_ne p2).1
  have hsx : size x ≤ sizes l := sizes_mem hx
  have hun := hk x hx D (hd' x hx) s P _ 0 (by omega) h1 hr'
  have hlen : pre.length < 3518437208883 := by
   have h3 := length_le_sizes l
   rw [hp] at h3 hz; simp at h3; omega
  refine Ev.step (fun k => by simp only [expr_parser_cat.l0, expr_parser_unary.f]; rfl) (Ev.bind hbg ?_)
  simp only [if_true]
  refine Ev.bind hun ?_
  simp only [if_pos hlen]
  cases x with | mk a b c =>
  have := ihr (pre ++ [⟨a, b, c⟩]) (by rw [hp]; exact shift_mid pre _ r) (P ++ par 4 ⟨a, b, c⟩) (by simpa using h1)
  refine Ev.to this ?_
  rw [bodies_cons]; simp
theorem and_loop {D : Nat} {s : ByteArray} {R : List Int} (hr : hd R ≠ 42) (hb : ¬ beg (hd R)) (h38 : hd R ≠ 38) (l : List S24) (hl : 2 ≤ l.length) (hz : sizes l ≤ 400) (hk : ∀ x, x ∈ l → S3 x) (hd' : ∀ x, x ∈ l → depth x + 1 ≤ D) : ∀ (r pre : List S24), l = pre ++ r → ∀ P, Txt s (P ++ (bodies [38] 3 false r ++ R)) →
  Gives (fun k => @expr_parser_listC.l0 (atomK D) k 6 38 pre s 6 (P.length : Int)) s ⟨6, 0, l⟩ (P ++ bodies [38] 3 false r) := by
 intro r
 induction r with
 | nil =>
  intro pre hp P h
  have h2 : Txt s (P ++ R) := by simpa [bodies] using h
  have hbg := is_ev h2 38 (by decide)
  rw [decide_eq_false h38] at hbg
  refine Ev.step (fun k => by simp only [expr_parser_listC.l0]; rfl) (Ev.bind hbg ?_)
  simp only [if_neg (show ¬ (false = true) by decide)]
  have : pre = l := by rw [hp]; simp
  rw [this, several_more 6 l hl]
  refine Ev.to (Ev.now _) ?_
  simp [bodies]
 | cons x r ihr =>
  intro pre hp P h
  have hx : x ∈ l := by rw [hp]; simp
  rw [bodies_cons] at h
  simp only [if_neg (show ¬ (false = true) by decide)] at h
  have h1 : Txt s (P ++ (38 :: (par 3 x ++ (bodies [38] 3 false r ++ R)))) := by simpa using h
  have h2 : Txt s ((P ++ [38]) ++ (par 3 x ++ (bodies [38] 3 false r ++ R))) := by simpa using h
  have hbg := is_ev h1 38 (by decide)
  rw [hd_cons, decide_eq_true rfl] at hbg
  have hr' : hd (bodies [38] 3 false r ++ R) ≠ 42 ∧ ¬ beg (hd (bodies [38] 3 false r ++ R)) := by
   cases r with
   | nil => simpa [bodies] using ⟨hr, hb⟩
   | cons y r =>
    rw [bodies_cons]
    show (38 : Int) ≠ 42 ∧ ¬ beg 38
    decide
  have hun := hk x hx D (hd' x hx) s (P ++ [38]) _ h2 hr'.1 hr'.2
  have hlen : pre.length < 3518437208883 := by
   have h3 := length_le_sizes l
   rw [hp] at h3 hz; simp at h3; omega
  refine Ev.step (fun k => by simp only [expr_parser_listC.l0]; rfl) (Ev.bind hbg ?_)
  simp only [if_true, h1.next]
  refine Ev.bind hun ?_
  simp only [if_pos hlen]
  cases x with | mk a b c =>
  have := ihr (pre ++ [⟨a, b, c⟩]) (by rw [hp]; exact shift_mid pre _ r) ((P ++ [38]) ++ par 3 ⟨a, b, c⟩) (by simpa using h)
  refine Ev.to this ?_
  rw [bodies_cons]; simp
theorem or_loop {D : Nat} {s : ByteArray} {R : List Int} (hr : hd R ≠ 42) (hb : ¬ beg (hd R)) (h38 : hd R ≠ 38) (h124 : hd R ≠ 124) (l : List S24) (hl : 2 ≤ l.length) (hz : sizes l ≤ 400) (hk : ∀ x, x ∈ l → S4 x) (hd' : ∀ x, x ∈ l → depth x + 1 ≤ D) : ∀ (r pre : List S24), l = pre ++ r → ∀ P, Txt s (P ++ (bodies [124] 2 false r ++ R)) →
  Gives (fun k => @expr_parser_listA.l0 (atomK D) k 4 124 pre s 6 (P.length : Int)) s ⟨4, 0, l⟩ (P ++ bodies [124] 2 false r) := by
 intro r
 induction r with
 | nil =>
  intro pre hp P h
  have h2 : Txt s (P ++ R) := by simpa [bodies] using h
  have hbg := is_ev h2 124 (by decide)
  rw [decide_eq_false h124] at hbg
  refine Ev.step (fun k => by simp only [expr_parser_listA.l0]; rfl) (Ev.bind hbg ?_)
  simp only [if_neg (show ¬ (false = true) by decide)]
  have : pre = l := by rw [hp]; simp
  rw [this, several_more 4 l hl]
  refine Ev.to (Ev.now _) ?_
  simp [bodies]
 | cons x r ihr =>
  intro pre hp P h
  have hx : x ∈ l := by rw [hp]; simp
  rw [bodies_cons] at h
  simp only [if_neg (show ¬ (false = true) by decide)] at h
  have h1 : Txt s (P ++ (124 :: (par 2 x ++ (bodies [124] 2 false r ++ R)))) := by simpa using h
  have h2 : Txt s ((P ++ [124]) ++ (par 2 x ++ (bodies [124] 2 false r ++ R))) := by simpa using h
  have hbg := is_ev h1 124 (by decide)
  rw [hd_cons, decide_eq_true rfl] at hbg
  have hr' : hd (bodies [124] 2 false r ++ R) ≠ 42 ∧ ¬ beg (hd (bodies [124] 2 false r ++ R)) ∧ hd (bodies [124] 2 false r ++ R) ≠ 38 := by
   cases r with
   | nil => simpa [bodies] using ⟨hr, hb, h38⟩
   | cons y r =>
    rw [bodies_cons]
    show (124 : Int) ≠ 42 ∧ ¬ beg 124 ∧ (124 : Int) ≠ 38
    decide
  have hun := hk x hx D (hd' x hx) s (P ++ [124]) _ h2 hr'.1 hr'.2.1 hr'.2.2
  have hlen : pre.length < 3518437208883 := by
   have h3 := length_le_sizes l
   rw [hp] at h3 hz; simp at h3; omega
  refine Ev.step (fun k => by simp only [expr_parser_listA.l0]; rfl) (Ev.bind hbg ?_)
  simp only [if_true, h1.next]
  refine Ev.bind hun ?_
  simp only [if_pos hlen]
  cases x with | mk a b c =>
  have := ihr (pre ++ [⟨a, b, c⟩]) (by rw [hp]; exact shift_mid pre _ r) ((P ++ [124]) ++ par 2 ⟨a, b, c⟩) (by simpa using h)
  refine Ev.to this ?_
  rw [bodies_cons]; simp
end Go.Proofs.Ytjofkebiacaciaa.T04
end
section
namespace Go.Proofs.Ytjofkebiacaciaa.T04
open Go Go.RowKit Go.Proofs.Ytjofkebiacaciaa.PAll Go.Proofs.YtjofkebiacaciaaW.PrintWords Go.Proofs.YtjofkebiacaciaaW.PrintLast Go.Proofs.YtjofkebiacaciaaW.PrintMore Go.Proofs.Ytjofkebiacaciaa.AllRead24
set_option linter.all false
theorem par_of_ge {e : S24} {l : Int} (h : ¬ lev e.f0 < l) : par l e = body e := by unfold par; rw [if_neg h]
theorem par_of_lt {e : S24} {l : Int} (h : lev e.f0 < l) : par l e = [40] ++ body e ++ [41] := by unfold par; rw [if_pos h]
theorem lev_four {o : Int} (h : ¬ lev o < 4) : o ≠ 4 ∧ o ≠ 5 ∧ o ≠ 6 := by
 refine ⟨?_, ?_, ?_⟩ <;> (rintro rfl; simp [lev] at h)
theorem lev_five {o : Int} (h : ¬ lev o < 5) : o ≠ 4 ∧ o ≠ 5 ∧ o ≠ 6 ∧ o ≠ 8 := by
 refine ⟨?_, ?_, ?_, ?_⟩ <;> (rintro rfl; simp [lev] at h)
theorem lev_three {o : Int} (h : ¬ lev o < 3) : o ≠ 4 ∧ o ≠ 6 := by
 refine ⟨?_, ?_⟩ <;> (rintro rfl; simp [lev] at h)
theorem lev_two {o : Int} (h : ¬ lev o < 2) : o ≠ 4 := by
 rintro rfl; simp [lev] at h
theorem parse (e : S24) : shp 6 e = true → size e ≤ 400 → S1 e ∧ S2 e ∧ S3 e ∧ S4 e ∧ S5 e := by
 induction e using ind with
 | h e ih =>
 intro hs hz
 have hsz := size_mk e
 have hdp := depth_mk e
 have kz : ∀ x, x ∈ e.f2 → size x ≤ 400 ∧ size x + 1 ≤ size e ∧ depth x + 1 ≤ depth e := fun x hx => by have h1 := sizes_mem hx; have h2 := depths_mem hx; omega
 have K : ∀ x, x ∈ e.f2 → S1 x ∧ S2 x ∧ S3 x ∧ S4 x ∧ S5 x := fun x hx => ih x hx (kid_shp hs hx) (kz x hx).1
 have cells := shp_cells hs
 have t1 : ¬ lev e.f0 < 5 → ∀ D, depth e ≤ D → ∀ s P R, Txt s (P ++ (body e ++ R)) → Post D s P (body e) e := by
  intro hl D hD s P R h
  obtain ⟨n4, n5, n6, n8⟩ := lev_five hl
  have dp := depth_pos e
  obtain ⟨D, rfl⟩ : ∃ m, D = m + 1 := ⟨D - 1, by omega⟩
  rcases cells with ⟨h1, he⟩ | ⟨h1, he⟩ | ⟨h1, q1, q2, he⟩ | ⟨h1, x, he⟩ | ⟨h1, x, he⟩ | ⟨h1, he, hl⟩
  ·have hb : body e = [48] := by rw [body_mk, if_pos h1]
   rw [hb] at h ⊢
   rw [he]
   exact post_of_atom (atom_empty h)
  ·have hb : body e = [49] := by rw [body_mk, if_neg (by omega), if_pos h1]
   rw [hb] at h ⊢
   rw [he]
   exact post_of_atom (atom_unit h)
  ·have hb : body e = [97 + e.f1] := by rw [body_mk, if_neg (by omega), if_neg (by omega), if_pos h1]; congr 1; omega
   rw [hb] at h ⊢
   have := post_of_atom (atom_letter (D := D) q1 q2 h)
   rw [← he] at this
   exact this
  ·have hx : e.f2 = [x] := by rw [he]
   have hb : body e = par 5 x ++ [42] := by rw [body_mk, if_neg (by omega), if_neg (by omega), if_neg (by omega), if_neg (by omega), if_pos h1, hx, bodyH_cons]
   have hm : x ∈ e.f2 := by rw [hx]; simp
   obtain ⟨z1, z2, z3⟩ := kz x hm
   rw [hb] at h ⊢
   have h2 : Txt s (P ++ (par 5 x ++ (42 :: R))) := by simpa using h
   have h3 : Txt s ((P ++ par 5 x) ++ (42 :: R)) := by simpa using h
   intro v hv
   refine (K x hm).1 (D + 1) (by omega) s P _ h2 v ?_
   have hi := is_ev h3 42 (by decide)
   rw [hd_cons, decide_eq_true rfl] at hi
   refine Ev.step (fun k => by simp only [expr_parser_postfix.l0]; rfl) (Ev.bind hi ?_)
   simp only [if_true, h3.next]
   have e1 : e = ⟨7, 0, [⟨x.f0, x.f1, x.f2⟩]⟩ := he.trans (by cases x; rfl)
   rw [e1] at hv
   simpa using hv
  ·omega
  ·omega
 have t2 : ¬ lev e.f0 < 4 → ∀ D, depth e ≤ D → ∀ s P R (m : Nat), m + size e ≤ 5000 → Txt s (P ++ (body e ++ R)) → hd R ≠ 42 → Gives (fun k => @expr_parser_unary.l0 (atomK D) k m s 6 (P.length : Int)) s (nots m e) (P ++ body e) := by
  intro hl D hD s P R m hm h hr
  obtain ⟨n4, n5, n6⟩ := lev_four hl
  obtain ⟨b1, b2, b3⟩ := body_hd e hs
  by_cases h8 : e.f0 = 8
  ·rcases cells with ⟨h1, he⟩ | ⟨h1, he⟩ | ⟨h1, q1, q2, he⟩ | ⟨h1, x, he⟩ | ⟨h1, x, he⟩ | ⟨h1, he, hl⟩
   ·omega
   ·omega
   ·omega
   ·omega
   ·have hx : e.f2 = [x] := by rw [he]
    have hb : body e = 33 :: par 4 x := by rw [body_mk, if_neg (by omega), if_neg (by omega), if_neg (by omega), if_pos h1, hx, bodyH_cons]; rfl
    have hmx : x ∈ e.f2 := by rw [hx]; simp
    obtain ⟨z1, z2, z3⟩ := kz x hmx
    rw [hb] at h ⊢
    have h2 : Txt s (P ++ (33 :: (par 4 x ++ R))) := by simpa using h
    have h3 : Txt s ((P ++ [33]) ++ (par 4 x ++ R)) := by simpa using h
    have hi := is_ev h2 33 (by decide)
    rw [hd_cons, decide_eq_true rfl] at hi
    have := (K x hmx).2.1 D (by omega) s (P ++ [33]) R (m + 1) (by omega) h3 hr
    have e1 : nots m e = nots (m + 1) x := by rw [he]; rfl
    rw [e1]
    refine Ev.step (fun k => by simp only [expr_parser_unary.l0]; rfl) (Ev.bind hi ?_)
    simp only [if_true, h2.next, w64 (i := (m : Int) + 1) (by omega) (by omega)]
    refine Ev.to this ?_
    simp
   ·omega
  ·exact lift12 h (t1 (by unfold lev at hl ⊢; simp only [if_neg n4, if_neg n5, if_neg n6, if_neg h8] at hl ⊢; split <;> omega) D hD s P R h) (by rw [hd_app b1]; exact b3 h8 n4 n5 n6) hr m (by omega)
 have t3 : ¬ lev e.f0 < 3 → ∀ D, depth e ≤ D → ∀ s P R, Txt s (P ++ (body e ++ R)) → hd R ≠ 42 → ¬ beg (hd R) → Gives (fun k => @expr_parser_cat.f (atomK D) k s 6 (P.length : Int)) s e (P ++ body e) := by
  intro hl D hD s P R h hr hb
  obtain ⟨n4, n6⟩ := lev_three hl
  by_cases h5 : e.f0 = 5
  ·rcases cells with ⟨h1, he⟩ | ⟨h1, he⟩ | ⟨h1, q1, q2, he⟩ | ⟨h1, x, he⟩ | ⟨h1, x, he⟩ | ⟨h1, he, hl2⟩
   ·omega
   ·omega
   ·omega
   ·omega
   ·omega
   ·have hbd : body e = bodies [] 4 true e.f2 := by rw [body_mk, if_neg (by omega), if_neg (by omega), if_neg (by omega), if_neg (by omega), if_neg (by omega), if_neg n4, if_neg n6]
    rw [hbd] at h ⊢
    cases hf : e.f2 with
    | nil => rw [hf] at hl2; simp at hl2
    | cons x r =>
     have hx : x ∈ e.f2 := by rw [hf]; simp
     obtain ⟨z1, z2, z3⟩ := kz x hx
     rw [hf, bodies_cons] at h
     simp only [if_true, List.nil_append] at h
     have h1 : Txt s (P ++ (par 4 x ++ (bodies [] 4 false r ++ R))) := by simpa using h
     have h2 : Txt s ((P ++ par 4 x) ++ (bodies [] 4 false r ++ R)) := by simpa using h
     have hr' : hd (bodies [] 4 false r ++ R) ≠ 42 := by
      cases r with
      | nil => simpa [bodies] using hr
      | cons y r =>
       obtain ⟨p1, p2⟩ := par_hd (kid_shp hs (show y ∈ e.f2 by rw [hf]; simp)) 4
       rw [bodies_cons]
       simp only [if_neg (show ¬ (false = true) by decide), List.nil_append, List.append_assoc]
       rw [hd_app p1]; exact (beg_ne p2).1
     have hu := (K x hx).2.1 D (by omega) s P _ 0 (by omega) h1 hr'
     have lp := cat_loop (D := D) (s := s) hr hb e.f2 hl2 (by omega) (fun y hy => kid_shp hs hy) (fun y hy => (K y hy).2.1) (fun y hy => by have := kz y hy; omega) r [x] hf (P ++ par 4 x) h2
     refine Ev.congr (fun k => by simp only [expr_parser_cat.f, expr_parser_unary.f]; rfl) (Ev.bind hu ?_)
     cases x with | mk a b c =>
     refine Ev.to lp ?_
     rw [he, h5, hf]
     simp [bodies_cons]
  ·have h4 : ¬ lev e.f0 < 4 := by unfold lev at hl ⊢; simp only [if_neg n4, if_neg n6, if_neg h5] at hl ⊢; split <;> (try split) <;> omega
   exact lift23 h (t2 h4 D hD s P R 0 (by omega) h hr) hb
 have t4 : ¬ lev e.f0 < 2 → ∀ D, depth e ≤ D → ∀ s P R, Txt s (P ++ (body e ++ R)) → hd R ≠ 42 → ¬ beg (hd R) → hd R ≠ 38 → Gives (fun k => @expr_parser_and.f (atomK D) k s 6 (P.length : Int)) s e (P ++ body e) := by
  intro hl D hD s P R h hr hb h38
  have n4 := lev_two hl
  by_cases h6 : e.f0 = 6
  ·rcases cells with ⟨h1, he⟩ | ⟨h1, he⟩ | ⟨h1, q1, q2, he⟩ | ⟨h1, x, he⟩ | ⟨h1, x, he⟩ | ⟨h1, he, hl2⟩
   ·omega
   ·omega
   ·omega
   ·omega
   ·omega
   ·have hbd : body e = bodies [38] 3 true e.f2 := by rw [body_mk, if_neg (by omega), if_neg (by omega), if_neg (by omega), if_neg (by omega), if_neg (by omega), if_neg n4, if_pos h6]
    rw [hbd] at h ⊢
    cases hf : e.f2 with
    | nil => rw [hf] at hl2; simp at hl2
    | cons x r =>
     have hx : x ∈ e.f2 := by rw [hf]; simp
     obtain ⟨z1, z2, z3⟩ := kz x hx
     rw [hf, bodies_cons] at h
     simp only [if_true, List.nil_append] at h
     have h1 : Txt s (P ++ (par 3 x ++ (bodies [38] 3 false r ++ R))) := by simpa using h
     have h2 : Txt s ((P ++ par 3 x) ++ (bodies [38] 3 false r ++ R)) := by simpa using h
     have hr' : hd (bodies [38] 3 false r ++ R) ≠ 42 ∧ ¬ beg (hd (bodies [38] 3 false r ++ R)) := by
      cases r with
      | nil => simpa [bodies] using ⟨hr, hb⟩
      | cons y r =>
       rw [bodies_cons]
       show (38 : Int) ≠ 42 ∧ ¬ beg 38
       decide
     have hu := (K x hx).2.2.1 D (by omega) s P _ h1 hr'.1 hr'.2
     have lp := and_loop (D := D) (s := s) hr hb h38 e.f2 hl2 (by omega) (fun y hy => (K y hy).2.2.1) (fun y hy => by have := kz y hy; omega) r [x] hf (P ++ par 3 x) h2
     refine Ev.congr (f := fun k => (@expr_parser_listC.f (atomK D) k s 6 (P.length : Int) 6 38).bind fun t => some (t.1, t.2.1, t.2.2.1, t.2.2.2.1, t.2.2.2.2.1, t.2.2.2.2.2)) (fun k => by simp only [expr_parser_and.f]) ?_
     refine Ev.bind (f := fun _ t => some (t.1, t.2.1, t.2.2.1, t.2.2.2.1, t.2.2.2.2.1, t.2.2.2.2.2)) (a := (e.f0, e.f1, x :: r, s, 6, ((P ++ bodies [38] 3 true (x :: r)).length : Int))) ?_ (Ev.to (Ev.now _) (by rw [hf]))
     refine Ev.congr (fun k => by simp only [expr_parser_listC.f]; rfl) (Ev.bind hu ?_)
     cases x with | mk a b c =>
     refine Ev.to lp ?_
     rw [he, h6, hf]
     simp [bodies_cons]
  ·have h3 : ¬ lev e.f0 < 3 := by unfold lev at hl ⊢; simp only [if_neg n4, if_neg h6] at hl ⊢; split <;> (try split) <;> (try split) <;> omega
   exact lift34 h (t3 h3 D hD s P R h hr hb) h38
 have t5 : S5 e := by
  intro D hD s P R h hr hb h38 h124
  by_cases h4 : e.f0 = 4
  ·rcases cells with ⟨h1, he⟩ | ⟨h1, he⟩ | ⟨h1, q1, q2, he⟩ | ⟨h1, x, he⟩ | ⟨h1, x, he⟩ | ⟨h1, he, hl2⟩
   ·omega
   ·omega
   ·omega
   ·omega
   ·omega
   ·have hbd : body e = bodies [124] 2 true e.f2 := by rw [body_mk, if_neg (by omega), if_neg (by omega), if_neg (by omega), if_neg (by omega), if_neg (by omega), if_pos h4]
    rw [hbd] at h ⊢
    cases hf : e.f2 with
    | nil => rw [hf] at hl2; simp at hl2
    | cons x r =>
     have hx : x ∈ e.f2 := by rw [hf]; simp
     obtain ⟨z1, z2, z3⟩ := kz x hx
     rw [hf, bodies_cons] at h
     simp only [if_true, List.nil_append] at h
     have h1 : Txt s (P ++ (par 2 x ++ (bodies [124] 2 false r ++ R))) := by simpa using h
     have h2 : Txt s ((P ++ par 2 x) ++ (bodies [124] 2 false r ++ R)) := by simpa using h
     have hr' : hd (bodies [124] 2 false r ++ R) ≠ 42 ∧ ¬ beg (hd (bodies [124] 2 false r ++ R)) ∧ hd (bodies [124] 2 false r ++ R) ≠ 38 := by
      cases r with
      | nil => simpa [bodies] using ⟨hr, hb, h38⟩
      | cons y r =>
       rw [bodies_cons]
       show (124 : Int) ≠ 42 ∧ ¬ beg 124 ∧ (124 : Int) ≠ 38
       decide
     have hu := (K x hx).2.2.2.1 D (by omega) s P _ h1 hr'.1 hr'.2.1 hr'.2.2
     have lp := or_loop (D := D) (s := s) hr hb h38 h124 e.f2 hl2 (by omega) (fun y hy => (K y hy).2.2.2.1) (fun y hy => by have := kz y hy; omega) r [x] hf (P ++ par 2 x) h2
     refine Ev.congr (f := fun k => (@expr_parser_listA.f (atomK D) k s 6 (P.length : Int) 4 124).bind fun t => some (t.1, t.2.1, t.2.2.1, t.2.2.2.1, t.2.2.2.2.1, t.2.2.2.2.2)) (fun k => by simp only [expr_parser_union.f]) ?_
     refine Ev.bind (f := fun _ t => some (t.1, t.2.1, t.2.2.1, t.2.2.2.1, t.2.2.2.2.1, t.2.2.2.2.2)) (a := (e.f0, e.f1, x :: r, s, 6, ((P ++ bodies [124] 2 true (x :: r)).length : Int))) ?_ (Ev.to (Ev.now _) (by rw [hf]))
     refine Ev.congr (fun k => by simp only [expr_parser_listA.f]; rfl) (Ev.bind hu ?_)
     cases x with | mk a b c =>
     refine Ev.to lp ?_
     rw [he, h4, hf]
     simp [bodies_cons]
  ·have h2 : ¬ lev e.f0 < 2 := by unfold lev; simp only [if_neg h4]; split <;> (try split) <;> (try split) <;> (try split) <;> omega
   exact lift45 h (t4 h2 D hD s P R h hr hb h38) h124
 have s1 : S1 e := by
  intro D hD s P R h
  by_cases hl : lev e.f0 < 5
  ·obtain ⟨D, rfl⟩ : ∃ m, D = m + 1 := ⟨D - 1, by omega⟩
   rw [par_of_lt hl] at h ⊢
   have h1 : Txt s (P ++ (40 :: (body e ++ (41 :: R)))) := by simpa using h
   have h2 : Txt s ((P ++ [40]) ++ (body e ++ (41 :: R))) := by simpa using h
   exact post_of_atom (atom_paren h1 (t5 D (by omega) s (P ++ [40]) _ h2 (by show (41 : Int) ≠ 42; decide) (by show ¬ beg 41; decide) (by show (41 : Int) ≠ 38; decide) (by show (41 : Int) ≠ 124; decide)))
  ·rw [par_of_ge hl] at h ⊢
   exact t1 hl D (by omega) s P R h
 have s2 : S2 e := by
  intro D hD s P R m hm h hr
  by_cases hl : lev e.f0 < 4
  ·have h5 : par 4 e = par 5 e := by rw [par_of_lt hl, par_of_lt (by omega)]
   rw [h5] at h ⊢
   exact lift12 h (s1 D hD s P R h) (by rw [par_of_lt (by omega)]; show (40 : Int) ≠ 33; decide) hr m (by omega)
  ·rw [par_of_ge hl] at h ⊢
   exact t2 hl D (by omega) s P R m hm h hr
 have s3 : S3 e := by
  intro D hD s P R h hr hb
  by_cases hl : lev e.f0 < 3
  ·have h5 : par 3 e = par 4 e := by rw [par_of_lt hl, par_of_lt (by omega)]
   rw [h5] at h ⊢
   exact lift23 h (s2 D hD s P R 0 (by omega) h hr) hb
  ·rw [par_of_ge hl] at h ⊢
   exact t3 hl D (by omega) s P R h hr hb
 have s4 : S4 e := by
  intro D hD s P R h hr hb h38
  by_cases hl : lev e.f0 < 2
  ·have h5 : par 2 e = par 3 e := by rw [par_of_lt hl, par_of_lt (by omega)]
   rw [h5] at h ⊢
   exact lift34 h (s3 D hD s P R h hr hb) h38
  ·rw [par_of_ge hl] at h ⊢
   exact t4 hl D (by omega) s P R h hr hb h38
 exact ⟨s1, s2, s3, s4, t5⟩
theorem parse_ev (e : S24) (hw : WF e) (hg : Vld e) : Ev (fun k => expr_Parse.f k (strOfNums (body e)) 6) (e.f0, e.f1, e.f2, 0, 0) := by
 have hz := hg.1.1
 have bl := body_len e
 have hl : (strOfNums (body e)).size = (body e).length := strOf_size' _
 have ht : Txt (strOfNums (body e)) ([] ++ (body e ++ [])) := ⟨by simp, fun c hc => body_chars e hg.2 c (by simpa using hc), by simp; omega⟩
 have ht2 : Txt (strOfNums (body e)) (body e ++ []) := by simpa using ht
 have dp := body_deep e hg.2
 have hu := (parse e hg.2 hz).2.2.2.2 ((strOfNums (body e)).size + 1) (by omega) _ [] [] ht (by decide) (by decide) (by decide) (by decide)
 refine Ev.congr (f := fun k => (@expr_parser_union.f (atomK ((strOfNums (body e)).size + 1)) k (strOfNums (body e)) 6 0).bind fun t => (expr_parser_peek.f k t.2.2.2.1 t.2.2.2.2.1 t.2.2.2.2.2).bind fun q => if q.2.2.2 < ((strOfNums (body e)).size : Int) then none else (simplify_Within.f k t.1 t.2.1 t.2.2.1).bind fun b => if b = true then some (t.1, t.2.1, t.2.2.1, 0, 0) else none) (fun k => by simp only [expr_Parse.f]; rw [if_neg (by decide), if_neg (by decide), if_neg (by omega)]) ?_
 refine Ev.bind hu ?_
 refine Ev.bind (peek_ev ht2) ?_
 have hn : ¬ ((([] ++ body e).length : Int) < ((strOfNums (body e)).size : Int)) := by rw [List.nil_append]; omega
 simp only [if_neg hn]
 have wi := within_prog e hw
 rw [decide_eq_true hg.1] at wi
 refine Ev.bind wi ?_
 simp only [if_true]
 exact Ev.now _
end Go.Proofs.Ytjofkebiacaciaa.T04
end
section
namespace Go.Proofs.Ytjofkebiacaciaa.PAll
open Go.RowKit Go.Proofs.YtjofkebiacaciaaW.PrintWords Go.Proofs.YtjofkebiacaciaaW.PrintLast Go.Proofs.YtjofkebiacaciaaW.PrintMore
attribute [local go_sem] max2_int min2_int max_two min_two max_three min_three max_four min_four
set_option linter.unusedVariables false
set_option linter.unusedSimpArgs false
def simplify_order.f (a0 : Int) (a1 : Int) : Option (Int) := if a0 < a1 then (some (-1)) else (if a0 > a1 then (some 1) else (some 0))
set_option maxHeartbeats 8000000 in
set_option maxRecDepth 100000 in
theorem simplify_order.calls (a0 : Int) (a1 : Int) (r : Int) (w : World) (h : simplify_order.f a0 a1 = some r) :
  Calls Try.prog 73 #[.int .i64 a0, .int .i64 a1] w fun e w' => e = .returned (.int .i64 r) ∧ Drawn0 w w' := by
 have H : (if a0 < a1 then (some (-1)) else (if a0 > a1 then (some 1) else (some 0))) = some r := h
 clear h
 by_cases c3 : a0 < a1
 ·rw [if_pos c3] at H
  have c3b0 : decide (a0 < a1) = true := decide_eq_true c3
  clear c3
  obtain rfl := Option.some.inj H
  go_enter Try.func73, Try.ntmps73
  go_wp2
  go_ret
  exact ⟨by first | rfl | (simp; done) | (simp [*]; done), by repeat (first | exact Drawn0.refl _ | apply Drawn0.step)⟩
 ·rw [if_neg c3] at H
  have c3b0 : decide (a0 < a1) = false := decide_eq_false c3
  clear c3
  by_cases c4 : a0 > a1
  ·rw [if_pos c4] at H
   have c4b0 : decide (a1 < a0) = true := decide_eq_true c4
   clear c4
   obtain rfl := Option.some.inj H
   go_enter Try.func73, Try.ntmps73
   go_wp2
   go_ret
   exact ⟨by first | rfl | (simp; done) | (simp [*]; done), by repeat (first | exact Drawn0.refl _ | apply Drawn0.step)⟩
  ·rw [if_neg c4] at H
   have c4b0 : decide (a1 < a0) = false := decide_eq_false c4
   clear c4
   obtain rfl := Option.some.inj H
   go_enter Try.func73, Try.ntmps73
   go_wp2
   go_ret
   exact ⟨by first | rfl | (simp; done) | (simp [*]; done), by repeat (first | exact Drawn0.refl _ | apply Drawn0.step)⟩
end Go.Proofs.Ytjofkebiacaciaa.PAll
end
