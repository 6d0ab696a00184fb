/- The functions that the laws of this seat reach, a proof for each that the Go code comes to them, and the plain laws; merged. Conditions: none beside those of the given statements. -/
import Derived.Outline
import Derived.Test.YtjofkebiacaciaaMc14
import Derived.Test.YtjofkebiacaciaaMc16
section
namespace Go.Proofs.Ytjofkebiacaciaa.PAll
open Go.RowKit Go.Proofs.YtjofkebiacaciaaW.PrintWords Go.Proofs.YtjofkebiacaciaaW.PrintLast Go.Proofs.YtjofkebiacaciaaW.PrintMore
attribute [local go_sem] max2_int min2_int max_two min_two max_three min_three max_four min_four
set_option linter.unusedVariables false
set_option linter.unusedSimpArgs false
def semigroupref04_Depth.f (k : Nat) (a0_0 : Int) (a0_1 : Int) (l0_2 : List (S24)) : Option (Int) := (semigroupref04_measure.f k a0_0 a0_1 l0_2 400).bind fun bt268 => (some bt268.2)
theorem semigroupref04_Depth.mono : ∀ a0 a1 a2 k, LeO (semigroupref04_Depth.f k a0 a1 a2) (semigroupref04_Depth.f (k + 1) a0 a1 a2) := by
 intro a0 a1 a2 k
 unfold semigroupref04_Depth.f
 repeat' first
   | (with_reducible exact semigroupref04_measure.mono _ _ _ _ _)
   | (with_reducible exact LeO.refl _)
   | (with_reducible exact LeO.none _)
   | (with_reducible refine LeO.ite ?_ ?_)
   | (with_reducible refine LeO.bind ?_ (fun _ => ?_))
   | exact semigroupref04_measure.mono _ _ _ _ _
   | exact LeO.none _
   | refine LeO.ite ?_ ?_
   | refine LeO.bind ?_ (fun _ => ?_)
set_option maxHeartbeats 8000000 in
set_option maxRecDepth 100000 in
theorem semigroupref04_Depth.calls (k : Nat) (a0_0 : Int) (a0_1 : Int) (A0_2 : Option Addr) (c0_2 : Nat) (l0_2 : List (S24)) (r : Int) (w : World) (hr0_2 : Kd.C k24 w A0_2 l0_2.length l0_2) (hc0_2 : l0_2.length ≤ c0_2) (h : semigroupref04_Depth.f k a0_0 a0_1 l0_2 = some r) :
  Calls Try.prog 31 #[.agg #[.int .i64 a0_0, .int .i64 a0_1, .slice A0_2 l0_2.length c0_2]] w fun e w' => e = .returned (.int .i64 r) ∧ Below w.heap.size w w' := by
 have hu24 := Try.underlying24
 have HR0_2 := Aside0.mk hr0_2
 have HC0_2 := Aside0.mk hc0_2
 clear hr0_2 hc0_2
 have HB := Aside0.mk (Below.refl w.heap.size w)
 have H : ((semigroupref04_measure.f k a0_0 a0_1 l0_2 400).bind fun bt268 => (some bt268.2)) = some r := h
 clear h
 replace H := Option.bind_eq_some_iff.mp H
 obtain ⟨⟨t268, t269⟩, A20, H⟩ := H
 replace H : (some t269) = some r := H
 have A2 := Aside0.mk A20
 clear A20
 obtain rfl := Option.some.inj H
 go_enter Try.func31, Try.ntmps31
 go_wp2_with (first | ((with_reducible refine gate_dst (N := 1) rfl ?_); refine box_event ?hg (N := 1) ?hd (cs := #[.int .i64 a0_0, .int .i64 a0_1, .slice A0_2 l0_2.length c0_2]) (t := 24) ?hr ?_; (case hd => rfl); (case hg => rfl); (case hr => first | (go_simp; done) | (go_simp; rfl)); intro gb267 hg w3 hbox hb; have n0_ := Aside0.mk (below_step (bB) hb); have n1_ := Aside0.mk (hbox); have n2_ := Aside0.mk ((by rw [hg]; exact (below_size (bB)) : w.heap.size ≤ gb267)); have n3_ := Aside0.mk ((by rw [hg]; exact (below_size (bB)) : w.heap.size ≤ gb267)); clear HB; have HB := n0_; have BK267 := n1_; have GW267 := n2_; have GE267 := n3_; clear n0_ n1_ n2_ n3_; clear hb hbox hg; have hcz4_0 : w3.cell? ⟨gb267, 0, none⟩ = some (.int .i64 a0_0) := (blk_cell BK267.out 0).trans rfl; have hcz4_1 : w3.cell? ⟨gb267, 1, none⟩ = some (.int .i64 a0_1) := (blk_cell BK267.out 1).trans rfl; have hcz4_2 : w3.cell? ⟨gb267, 2, none⟩ = some (.slice A0_2 l0_2.length c0_2) := (blk_cell BK267.out 2).trans rfl; have hfz4_0 := blk_frozen BK267.out 0; have hfz4_1 := blk_frozen BK267.out 1; have hfz4_2 := blk_frozen BK267.out 2) | ((with_reducible refine gate_callee (f := 58) rfl ?_); refine goesL_ (some 7) rfl rfl Try.func58 (by kernel_rfl) rfl #[.agg #[.int .i64 a0_0, .int .i64 a0_1, .slice A0_2 l0_2.length c0_2], .int .i64 400] rfl (by (try simp only [List.map_toArray, List.map_cons, List.map_nil]); first | done | rfl | (simp only [List.length_drop, List.length_take]; rfl) | (simp only [Int.ofNat_lt, Int.ofNat_le]; rfl)) ?_; (with_reducible refine (semigroupref04_measure.calls k a0_0 a0_1 _ _ l0_2 400 t268 t269 _ ?side1 ?side2 A2.out).mono ?_); (case side1 => repeat (first | exact (Kd.C_below HR0_2.out HB.out) | (with_reducible refine Kd.C_alloc ?_ _) | (with_reducible refine Kd.C_drewN ?_ _) | (with_reducible refine Kd.C_drew ?_))); (case side2 => exact HC0_2.out); rintro e w5 ⟨rfl, hb⟩; refine ⟨_, rfl, ?_⟩; have n0_ := Aside0.mk (blk_below (g := gb267) (o := .cells #[.int .i64 a0_0, .int .i64 a0_1, .slice A0_2 l0_2.length c0_2] 24 (0, 0)) (bK) hb); have n1_ := Aside0.mk (below_step (bB) hb); clear BK267; clear HB; have BK267 := n0_; have HB := n1_; clear n0_ n1_; (try clear hb); (try clear hb2); (try clear hk); (try clear hi)))
 go_ret
 exact ⟨by first | rfl | (simp [errW_none, errW_some] <;> rfl) | (simp [*, errW_none, errW_some] <;> rfl), bB⟩
end Go.Proofs.Ytjofkebiacaciaa.PAll
end
section
namespace Go.Proofs.Ytjofkebiacaciaa.PAll
open Go.RowKit Go.Proofs.YtjofkebiacaciaaW.PrintWords Go.Proofs.YtjofkebiacaciaaW.PrintLast Go.Proofs.YtjofkebiacaciaaW.PrintMore
attribute [local go_sem] max2_int min2_int max_two min_two max_three min_three max_four min_four
set_option linter.unusedVariables false
set_option linter.unusedSimpArgs false
mutual
def word_Valid.j0 : Nat → ByteArray → Int → Bool → Option (Bool)
 | 0, _, _, _ => none
 | k + 1, x0, x1, x16 => if x16 = true then (some false) else (word_Valid.l0 k x0 x1 0)
def word_Valid.l0 : Nat → ByteArray → Int → Int → Option (Bool)
 | 0, _, _, _ => none
 | k + 1, x0, x1, x5 => if x5 < (x0.size : Int) then (if 0 ≤ x5 then (if (bt x0 x5) < 97 then (some false) else (if (((bt x0 x5) - 97) % 256) ≥ x1 then (some false) else (word_Valid.l0 k x0 x1 (wrap64 (x5 + 1))))) else (none)) else (some true)
end
def word_Valid.f (k : Nat) (a0 : ByteArray) (a1 : Int) : Option (Bool) := if a1 < 1 then (word_Valid.j0 k a0 a1 true) else (if a1 > 6 then (word_Valid.j0 k a0 a1 true) else (word_Valid.j0 k a0 a1 (decide ((a0.size : Int) > 2048))))
theorem word_Valid.mono_l : ∀ k, (∀ y0 y1 y2, LeO (word_Valid.j0 k y0 y1 y2) (word_Valid.j0 (k + 1) y0 y1 y2)) ∧ (∀ y0 y1 y2, LeO (word_Valid.l0 k y0 y1 y2) (word_Valid.l0 (k + 1) y0 y1 y2))
 | 0 => ⟨fun _ _ _ r h => by simp [word_Valid.j0] at h, fun _ _ _ r h => by simp [word_Valid.l0] at h⟩
 | k + 1 => by
  obtain ⟨ih0, ih1⟩ := word_Valid.mono_l k
  refine ⟨?_, ?_⟩
  ·intro y0 y1 y2
   unfold word_Valid.j0
   repeat' first
   | (with_reducible exact ih0 _ _ _)
   | (with_reducible exact ih1 _ _ _)
   | (with_reducible exact LeO.refl _)
   | (with_reducible exact LeO.none _)
   | (with_reducible refine LeO.ite ?_ ?_)
   | (with_reducible refine LeO.bind ?_ (fun _ => ?_))
   | exact ih0 _ _ _
   | exact ih1 _ _ _
   | exact LeO.none _
   | refine LeO.ite ?_ ?_
   | refine LeO.bind ?_ (fun _ => ?_)
  ·intro y0 y1 y2
   unfold word_Valid.l0
   repeat' first
   | (with_reducible exact ih0 _ _ _)
   | (with_reducible exact ih1 _ _ _)
   | (with_reducible exact LeO.refl _)
   | (with_reducible exact LeO.none _)
   | (with_reducible refine LeO.ite ?_ ?_)
   | (with_reducible refine LeO.bind ?_ (fun _ => ?_))
   | exact ih0 _ _ _
   | exact ih1 _ _ _
   | exact LeO.none _
   | refine LeO.ite ?_ ?_
   | refine LeO.bind ?_ (fun _ => ?_)
theorem word_Valid.mono : ∀ a0 a1 k, LeO (word_Valid.f k a0 a1) (word_Valid.f (k + 1) a0 a1) := by
 intro a0 a1 k
 obtain ⟨ih0, ih1⟩ := word_Valid.mono_l k
 unfold word_Valid.f
 repeat' first
   | (with_reducible exact ih0 _ _ _)
   | (with_reducible exact ih1 _ _ _)
   | (with_reducible exact LeO.refl _)
   | (with_reducible exact LeO.none _)
   | (with_reducible refine LeO.ite ?_ ?_)
   | (with_reducible refine LeO.bind ?_ (fun _ => ?_))
   | exact ih0 _ _ _
   | exact ih1 _ _ _
   | exact LeO.none _
   | refine LeO.ite ?_ ?_
   | refine LeO.bind ?_ (fun _ => ?_)
set_option maxHeartbeats 8000000 in
set_option maxRecDepth 100000 in
theorem word_Valid.calls (k : Nat) (a0 : ByteArray) (a1 : Int) (r : Bool) (w : World) (h : word_Valid.f k a0 a1 = some r) :
  Calls Try.prog 59 #[.string a0, .int .i64 a1] w fun e w' => e = .returned (.bool r) ∧ Drawn0 w w' := by
 have H : (if a1 < 1 then (word_Valid.j0 k a0 a1 true) else (if a1 > 6 then (word_Valid.j0 k a0 a1 true) else (word_Valid.j0 k a0 a1 (decide ((a0.size : Int) > 2048))))) = some r := h
 clear h
 have HC3 := Aside0.mk H
 clear H
 go_enter Try.func59, Try.ntmps59
 go_upto_region 1 with (fail)
 go_cut [16] (fun v16 wc => ∃ (kq : Nat) (x16_2 : Bool), v16 = .bool x16_2 ∧ Aside0 (word_Valid.j0 kq a0 a1 x16_2 = some r) ∧ Aside0 (kq ≤ k) ∧ Drawn0 w wc)
 case first =>
  have H := HC3.out
  clear HC3
  by_cases c4 : a1 < 1
  ·rw [if_pos c4] at H
   have c4b0 : decide (a1 < 1) = true := decide_eq_true c4
   clear c4
   (first | rw [c4b0] | (simp only [i64_w, i32_w]; rw [c4b0]) | skip)
   have H' := Aside0.mk H
   clear H
   go_wp2
   go_meet
   case rel => exact ⟨_, (true), (by first | rfl | (simp; done) | (simp [*]; done)), H', ⟨by first | omega | exact Nat.le_refl _⟩, by repeat (first | exact Drawn0.refl _ | apply Drawn0.step)⟩
  ·rw [if_neg c4] at H
   have c4b0 : decide (a1 < 1) = false := decide_eq_false c4
   clear c4
   (first | rw [c4b0] | (simp only [i64_w, i32_w]; rw [c4b0]) | skip)
   by_cases c5 : a1 > 6
   ·rw [if_pos c5] at H
    have c5b0 : decide (6 < a1) = true := decide_eq_true c5
    clear c5
    have H' := Aside0.mk H
    clear H
    go_wp2
    go_meet
    case rel => exact ⟨_, (true), (by first | rfl | (simp; done) | (simp [*]; done)), H', ⟨by first | omega | exact Nat.le_refl _⟩, by repeat (first | exact Drawn0.refl _ | apply Drawn0.step)⟩
   ·rw [if_neg c5] at H
    have c5b0 : decide (6 < a1) = false := decide_eq_false c5
    clear c5
    have H' := Aside0.mk H
    clear H
    go_wp2
    go_meet
    case rel => exact ⟨_, (decide ((a0.size : Int) > 2048)), (by first | rfl | (simp; done) | (simp [*]; done)), H', ⟨by first | omega | exact Nat.le_refl _⟩, by repeat (first | exact Drawn0.refl _ | apply Drawn0.step)⟩
 case rest =>
  clear HC3
  obtain ⟨kq, x16_2, rfl, HA, HJ2, ⟨mc2, rfl⟩⟩ := hcut
  cases kq with
  | zero => exact absurd HA.out (by simp [word_Valid.j0])
  | succ kj2 =>
   have H := HA.out
   clear HA
   simp only [word_Valid.j0] at H
   by_cases c6 : x16_2 = true
   ·subst c6
    have H1 : (some false) = some r := by rw [if_pos rfl] at H; exact H
    clear H
    have H := H1
    clear H1
    obtain rfl := Option.some.inj H
    go_wp2
    go_ret
    exact ⟨by first | rfl | (simp; done) | (simp [*]; done), by repeat (first | exact Drawn0.refl _ | apply Drawn0.step)⟩
   ·replace c6 := Bool.eq_false_iff.mpr c6
    subst c6
    have H1 : (word_Valid.l0 kj2 a0 a1 0) = some r := by rw [if_neg (show ¬ (false = true) by decide)] at H; exact H
    clear H
    have H := H1
    clear H1
    have H' := Aside0.mk H
    clear H
    go_wp2
    go_loopg [5] kj2 (fun kq v5 w' => ∃ (x5_2 : Int), v5 = .int .i64 x5_2 ∧ Aside0 (word_Valid.l0 kq a0 a1 x5_2 = some r) ∧ Aside0 (kq ≤ kj2) ∧ Drawn0 w w')
    case atStart => exact ⟨(0), (by first | rfl | (simp; done) | (simp [*]; done)), H', ⟨Nat.le_refl _⟩, by repeat (first | exact Drawn0.refl _ | apply Drawn0.step)⟩
    case round =>
     clear H'
     try clear c6
     obtain ⟨x5_2, rfl, HA, HK2, ⟨m2, rfl⟩⟩ := hrel
     cases gk with
     | zero => exact absurd HA.out (by simp [word_Valid.l0])
     | succ k2 =>
      have H := HA.out
      clear HA
      simp only [word_Valid.l0] at H
      by_cases c7 : x5_2 < (a0.size : Int)
      ·rw [if_pos c7] at H
       have c7b0 : decide (x5_2 < (a0.size : Int)) = true := decide_eq_true c7
       clear c7
       by_cases c8 : 0 ≤ x5_2
       ·rw [if_pos c8] at H
        have c8b0 : decide (0 ≤ x5_2) = true := decide_eq_true c8
        clear c8
        by_cases c10 : (bt a0 x5_2) < 97
        ·rw [if_pos c10] at H
         have c10b0 : decide ((bt a0 x5_2) < 97) = true := decide_eq_true c10
         clear c10
         obtain rfl := Option.some.inj H
         have p9 : 0 ≤ (x5_2 : Int) := of_decide_eq_true (by first | (with_reducible assumption) | assumption)
         have q9 : x5_2 < (a0.size : Int) := of_decide_eq_true (by first | (with_reducible assumption) | assumption)
         have hx9 := bt_at a0 x5_2
         replace p9 := eq_true p9
         replace q9 := eq_true q9
         go_wp2
         go_ret
         exact ⟨by first | rfl | (simp; done) | (simp [*]; done), by repeat (first | exact Drawn0.refl _ | apply Drawn0.step)⟩
        ·rw [if_neg c10] at H
         have c10b0 : decide ((bt a0 x5_2) < 97) = false := decide_eq_false c10
         clear c10
         by_cases c12 : (((bt a0 x5_2) - 97) % 256) ≥ a1
         ·rw [if_pos c12] at H
          have c12b0 : decide (a1 ≤ (((bt a0 x5_2) - 97) % 256)) = true := decide_eq_true c12
          clear c12
          obtain rfl := Option.some.inj H
          have p9 : 0 ≤ (x5_2 : Int) := of_decide_eq_true (by first | (with_reducible assumption) | assumption)
          have q9 : x5_2 < (a0.size : Int) := of_decide_eq_true (by first | (with_reducible assumption) | assumption)
          have hx9 := bt_at a0 x5_2
          replace p9 := eq_true p9
          replace q9 := eq_true q9
          have p11 : 0 ≤ (x5_2 : Int) := of_decide_eq_true (by first | (with_reducible assumption) | assumption)
          have q11 : x5_2 < (a0.size : Int) := of_decide_eq_true (by first | (with_reducible assumption) | assumption)
          have hx11 := bt_at a0 x5_2
          replace p11 := eq_true p11
          replace q11 := eq_true q11
          go_wp2
          go_ret
          exact ⟨by first | rfl | (simp; done) | (simp [*]; done), by repeat (first | exact Drawn0.refl _ | apply Drawn0.step)⟩
         ·rw [if_neg c12] at H
          have c12b0 : decide (a1 ≤ (((bt a0 x5_2) - 97) % 256)) = false := decide_eq_false c12
          clear c12
          have H' := Aside0.mk H
          clear H
          have p9 : 0 ≤ (x5_2 : Int) := of_decide_eq_true (by first | (with_reducible assumption) | assumption)
          have q9 : x5_2 < (a0.size : Int) := of_decide_eq_true (by first | (with_reducible assumption) | assumption)
          have hx9 := bt_at a0 x5_2
          replace p9 := eq_true p9
          replace q9 := eq_true q9
          have p11 : 0 ≤ (x5_2 : Int) := of_decide_eq_true (by first | (with_reducible assumption) | assumption)
          have q11 : x5_2 < (a0.size : Int) := of_decide_eq_true (by first | (with_reducible assumption) | assumption)
          have hx11 := bt_at a0 x5_2
          replace p11 := eq_true p11
          replace q11 := eq_true q11
          go_wp2
          (first | go_roundg k2 | ((simp only [add_plain] at *); go_roundg k2))
          case measure => have := HJ2.out; have := HK2.out; omega
          case rel => exact ⟨(wrap64 (x5_2 + 1)), (by first | rfl | (simp; done) | (simp [*]; done)), H', ⟨by have := HJ2.out; have := HK2.out; omega⟩, by repeat (first | exact Drawn0.refl _ | apply Drawn0.step)⟩
       ·rw [if_neg c8] at H
        exact absurd H (by simp)
      ·rw [if_neg c7] at H
       have c7b0 : decide (x5_2 < (a0.size : Int)) = false := decide_eq_false c7
       clear c7
       obtain rfl := Option.some.inj H
       go_wp2
       go_ret
       exact ⟨by first | rfl | (simp; done) | (simp [*]; done), by repeat (first | exact Drawn0.refl _ | apply Drawn0.step)⟩
end Go.Proofs.Ytjofkebiacaciaa.PAll
end
section
namespace Go.Proofs.Ytjofkebiacaciaa.PAll
open Go.RowKit Go.Proofs.YtjofkebiacaciaaW.PrintWords Go.Proofs.YtjofkebiacaciaaW.PrintLast Go.Proofs.YtjofkebiacaciaaW.PrintMore
attribute [local go_sem] max2_int min2_int max_two min_two max_three min_three max_four min_four
set_option linter.unusedVariables false
set_option linter.unusedSimpArgs false
def expr_spans_has.f (l0 : List (List Int)) (a1 : Int) (a2 : Int) : Option (Bool) := if 0 ≤ a1 then (if a1 < (l0.length : Int) then (if 0 ≤ (wrap64 (Int.tdiv a2 64)) then (if (wrap64 (Int.tdiv a2 64)) < ((rd_L4 l0 a1).length : Int) then (if 0 ≤ (IntKind.u64.wrap (Int.tmod a2 64)) then (some ((Go.bits .and .u64 (shr .u64 (rd (rd_L4 l0 a1) (wrap64 (Int.tdiv a2 64))) (IntKind.u64.wrap (Int.tmod a2 64))) 1) == 1)) else (none)) else (none)) else (none)) else (none)) else (none)
set_option maxHeartbeats 8000000 in
set_option maxRecDepth 100000 in
theorem expr_spans_has.calls (A0 : Option Addr) (c0 : Nat) (l0 : List (List Int)) (a1 : Int) (a2 : Int) (r : Bool) (w : World) (hr0 : Kd.C (Kd.slice 71 (Kd.int .u64)) w A0 l0.length l0) (hc0 : l0.length ≤ c0) (h : expr_spans_has.f l0 a1 a2 = some r) :
  Calls Try.prog 61 #[.slice A0 l0.length c0, .int .i64 a1, .int .i64 a2] w fun e w' => e = .returned (.bool r) ∧ Drawn0 w w' := by
 have HR0 := Aside0.mk hr0
 have HC0 := Aside0.mk hc0
 clear hr0 hc0
 have H : (if 0 ≤ a1 then (if a1 < (l0.length : Int) then (if 0 ≤ (wrap64 (Int.tdiv a2 64)) then (if (wrap64 (Int.tdiv a2 64)) < ((rd_L4 l0 a1).length : Int) then (if 0 ≤ (IntKind.u64.wrap (Int.tmod a2 64)) then (some ((Go.bits .and .u64 (shr .u64 (rd (rd_L4 l0 a1) (wrap64 (Int.tdiv a2 64))) (IntKind.u64.wrap (Int.tmod a2 64))) 1) == 1)) else (none)) else (none)) else (none)) else (none)) else (none)) = some r := h
 clear h
 by_cases c4 : 0 ≤ a1
 ·rw [if_pos c4] at H
  have c4b0 : decide (0 ≤ a1) = true := decide_eq_true c4
  clear c4
  by_cases c5 : a1 < (l0.length : Int)
  ·rw [if_pos c5] at H
   have c5b0 : decide (a1 < (l0.length : Int)) = true := decide_eq_true c5
   clear c5
   obtain ⟨ji6, hji6⟩ : ∃ j_ : Int, (wrap64 (Int.tdiv a2 64)) = j_ := ⟨_, rfl⟩
   replace H : (if 0 ≤ (ji6) then (if (ji6) < ((rd_L4 l0 a1).length : Int) then (if 0 ≤ (IntKind.u64.wrap (Int.tmod a2 64)) then (some ((Go.bits .and .u64 (shr .u64 (rd (rd_L4 l0 a1) (ji6)) (IntKind.u64.wrap (Int.tmod a2 64))) 1) == 1)) else (none)) else (none)) else (none)) = some r := by first | (rw [hji6] at H; exact H) | (simp only [hji6] at H ⊢; exact H)
   have hji6w : (IntKind.i64.wrap (Int.tdiv a2 64)) = ji6 := (i64_w _).trans hji6
   by_cases c7 : 0 ≤ (ji6)
   ·rw [if_pos c7] at H
    have c7b0 : decide (0 ≤ (ji6)) = true := decide_eq_true c7
    clear c7
    by_cases c8 : (ji6) < ((rd_L4 l0 a1).length : Int)
    ·rw [if_pos c8] at H
     have c8b0 : decide ((ji6) < ((rd_L4 l0 a1).length : Int)) = true := decide_eq_true c8
     clear c8
     obtain ⟨ji9, hji9⟩ : ∃ j_ : Int, (IntKind.u64.wrap (Int.tmod a2 64)) = j_ := ⟨_, rfl⟩
     replace H : (if 0 ≤ (ji9) then (some ((Go.bits .and .u64 (shr .u64 (rd (rd_L4 l0 a1) (ji6)) (ji9)) 1) == 1)) else (none)) = some r := by first | (rw [hji9] at H; exact H) | (simp only [hji9] at H ⊢; exact H)
     by_cases c10 : 0 ≤ (ji9)
     ·rw [if_pos c10] at H
      have c10b0 := eq_true c10
      have c10b1 : decide (0 ≤ (ji9)) = true := decide_eq_true c10
      clear c10
      obtain ⟨ji11, hji11⟩ : ∃ j_ : Int, (shr .u64 (rd (rd_L4 l0 a1) (ji6)) (ji9)) = j_ := ⟨_, rfl⟩
      replace H : (some ((Go.bits .and .u64 (ji11) 1) == 1)) = some r := by first | (rw [hji11] at H; exact H) | (simp only [hji11] at H ⊢; exact H)
      have hji11_ : ((rd (rd_L4 l0 a1) (ji6)) / 2 ^ min (ji9).toNat 64) = ji11 := hji11
      have hji11z : (ji9) ≤ 64 → ((rd (rd_L4 l0 a1) (ji6)) / 2 ^ (ji9).toNat) = ji11 := shr_small hji11
      obtain rfl := Option.some.inj H
      have p270 : 0 ≤ (a1 : Int) := of_decide_eq_true (by first | (with_reducible assumption) | assumption)
      have q270 : a1 < (l0.length : Int) := of_decide_eq_true (by first | (with_reducible assumption) | assumption)
      obtain ⟨ad270, A270_0, c270_0, e270, hx270_0, hl270_0, hi270_0⟩ := at_L4 HR0.out a1 p270 q270
      cases e270
      have HR270_0 := Aside0.mk hi270_0
      have HC270_0 := Aside0.mk hl270_0
      clear hi270_0 hl270_0
      replace p270 := eq_true p270
      replace q270 := eq_true q270
      have p271 : 0 ≤ ((ji6) : Int) := of_decide_eq_true (by first | (with_reducible assumption) | assumption)
      have q271 : (ji6) < ((rd_L4 l0 a1).length : Int) := of_decide_eq_true (by first | (with_reducible assumption) | assumption)
      obtain ⟨ad271, e271, hx271_0⟩ := Kd.at_int HR270_0.out (ji6) p271 q271
      cases e271
      replace p271 := eq_true p271
      replace q271 := eq_true q271
      go_enter Try.func61, Try.ntmps61
      go_wp2
      go_ret
      exact ⟨by first | rfl | (simp; done) | (simp only [← hji6, ← hji9, ← hji11] <;> (first | rfl | simp)) | (simp [*]; done), by repeat (first | exact Drawn0.refl _ | apply Drawn0.step)⟩
     ·rw [if_neg c10] at H
      exact absurd H (by simp)
    ·rw [if_neg c8] at H
     exact absurd H (by simp)
   ·rw [if_neg c7] at H
    exact absurd H (by simp)
  ·rw [if_neg c5] at H
   exact absurd H (by simp)
 ·rw [if_neg c4] at H
  exact absurd H (by simp)
end Go.Proofs.Ytjofkebiacaciaa.PAll
end
section
namespace Go.Proofs.Ytjofkebiacaciaa.PAll
open Go.RowKit Go.Proofs.YtjofkebiacaciaaW.PrintWords Go.Proofs.YtjofkebiacaciaaW.PrintLast Go.Proofs.YtjofkebiacaciaaW.PrintMore
attribute [local go_sem] max2_int min2_int max_two min_two max_three min_three max_four min_four
set_option linter.all false
theorem wrap_u8 (x : Int) : wrap64 (IntKind.u8.wrap x) = x % 256 := by
 have h : IntKind.u8.wrap x = x % 256 := by simp [IntKind.wrap, IntKind.signed, IntKind.bits]
 rw [h]; unfold wrap64; omega
set_option maxHeartbeats 4000000 in
set_option maxRecDepth 100000 in
theorem spans_add.calls (ad : Addr) (n c : Nat) (i j : Int) (go m cm : Nat) (v p q r : Int) (w : World) (hi0 : 0 ≤ i) (hi : i < (n : Int)) (hrow : w.cell? (ad.add i.toNat) = some (.slice (some ⟨go, 0, none⟩) m cm))
  (hp : wrap64 (Int.tdiv j 64) = p) (hp0 : 0 ≤ p) (hpm : p < (m : Int)) (hcell : w.cell? ⟨go, p.toNat, none⟩ = some (.int .u64 v)) (hfz : w.frozen? ⟨go, p.toNat, none⟩ = false) (hq : IntKind.u64.wrap (Int.tmod j 64) = q) (hq0 : 0 ≤ q) (hr : shl .u64 1 q = r) :
  Calls Try.prog 75 #[.slice (some ad) n c, .int .i64 i, .int .i64 j] w fun e w' => e = .returned (.tuple #[]) ∧ w' = w.setCell ⟨go, p.toNat, none⟩ (.int .u64 (Go.bits .or .u64 v r)) := by
 have hi0b : decide (0 ≤ i) = true := decide_eq_true hi0
 have hib : decide (i < (n : Int)) = true := decide_eq_true hi
 have hp0b : decide (0 ≤ p) = true := decide_eq_true hp0
 have hpb : decide (p < (m : Int)) = true := decide_eq_true hpm
 have hq0b : decide (0 ≤ q) = true := decide_eq_true hq0
 have hi0c := eq_true hi0
 have hic := eq_true hi
 have hp0c := eq_true hp0
 have hpc := eq_true hpm
 have hq0c := eq_true hq0
 have hpw : (IntKind.i64.wrap (Int.tdiv j 64)) = p := (i64_w _).trans hp
 have HR := Aside0.mk hr
 clear hr hi0 hi hp0 hpm hq0
 go_enter Try.func75, Try.ntmps75
 go_wp2
 first | go_end0 | ((try simp only [Exit.inBlock, Exit.then]); refine bodyPost_ret (results_none rfl _ _ _) rfl ?_)
 exact ⟨rfl, by rw [← HR.out]; simp [shl, IntKind.bits]⟩
end Go.Proofs.Ytjofkebiacaciaa.PAll
end
section
namespace Go.Proofs.Ytjofkebiacaciaa.PAll
open Go.RowKit Go.Proofs.YtjofkebiacaciaaW.PrintWords Go.Proofs.YtjofkebiacaciaaW.PrintLast Go.Proofs.YtjofkebiacaciaaW.PrintMore
attribute [local go_sem] max2_int min2_int max_two min_two max_three min_three max_four min_four
set_option linter.unusedVariables false
set_option linter.unusedSimpArgs false
def expr_newSpans.l0 : Nat → Int → List (List Int) → Int → Int → Option ((List (List Int)))
 | 0, _, _, _, _ => none
 | k + 1, x0, x3, x9, x10 => if x10 < x9 then (if 0 ≤ (wrap64 ((wrap64 (Int.tdiv x0 64)) + 1)) then (if (wrap64 ((wrap64 (Int.tdiv x0 64)) + 1) : Int).toNat ≤ 35184372088832 then (if 0 ≤ x10 then (if x10 < (x3.length : Int) then (expr_newSpans.l0 k x0 (x3.set (x10 : Int).toNat (List.replicate (wrap64 ((wrap64 (Int.tdiv x0 64)) + 1) : Int).toNat 0)) x9 (wrap64 (x10 + 1))) else (none)) else (none)) else (none)) else (none)) else (some x3)
def expr_newSpans.f (k : Nat) (a0 : Int) : Option ((List (List Int))) := if 0 ≤ (wrap64 (a0 + 1)) then (if (wrap64 (a0 + 1) : Int).toNat ≤ 11728124029610 then ((some (List.replicate (wrap64 (a0 + 1) : Int).toNat [] : List (List Int))).bind fun y272 => (expr_newSpans.l0 k a0 y272 (y272.length : Int) 0)) else (none)) else (none)
theorem expr_newSpans.mono_l : ∀ k, (∀ y0 y1 y2 y3, LeO (expr_newSpans.l0 k y0 y1 y2 y3) (expr_newSpans.l0 (k + 1) y0 y1 y2 y3))
 | 0 => fun _ _ _ _ r h => by simp [expr_newSpans.l0] at h
 | k + 1 => by
  have ih0 := expr_newSpans.mono_l k
  ·intro y0 y1 y2 y3
   unfold expr_newSpans.l0
   repeat' first
   | (with_reducible exact ih0 _ _ _ _)
   | (with_reducible exact LeO.refl _)
   | (with_reducible exact LeO.none _)
   | (with_reducible refine LeO.ite ?_ ?_)
   | (with_reducible refine LeO.bind ?_ (fun _ => ?_))
   | exact ih0 _ _ _ _
   | exact LeO.none _
   | refine LeO.ite ?_ ?_
   | refine LeO.bind ?_ (fun _ => ?_)
theorem expr_newSpans.mono : ∀ a0 k, LeO (expr_newSpans.f k a0) (expr_newSpans.f (k + 1) a0) := by
 intro a0 k
 have ih0 := expr_newSpans.mono_l k
 unfold expr_newSpans.f
 repeat' first
   | (with_reducible exact ih0 _ _ _ _)
   | (with_reducible exact LeO.refl _)
   | (with_reducible exact LeO.none _)
   | (with_reducible refine LeO.ite ?_ ?_)
   | (with_reducible refine LeO.bind ?_ (fun _ => ?_))
   | exact ih0 _ _ _ _
   | exact LeO.none _
   | refine LeO.ite ?_ ?_
   | refine LeO.bind ?_ (fun _ => ?_)
set_option maxHeartbeats 8000000 in
set_option maxRecDepth 100000 in
theorem expr_newSpans.calls (k : Nat) (a0 : Int) (r : List (List Int)) (w : World) (h : expr_newSpans.f k a0 = some r) :
  Calls Try.prog 74 #[.int .i64 a0] w fun e w' => ∃ v0_ : Value, e = .returned (v0_) ∧ Kd.S (Kd.slice 71 (Kd.int .u64)) 70 w' w.heap.size (fun _ => True) v0_ r ∧ Below w.heap.size w w' := by
 have HB := Aside0.mk (Below.refl w.heap.size w)
 have H : (if 0 ≤ (wrap64 (a0 + 1)) then (if (wrap64 (a0 + 1) : Int).toNat ≤ 11728124029610 then ((some (List.replicate (wrap64 (a0 + 1) : Int).toNat [] : List (List Int))).bind fun y272 => (expr_newSpans.l0 k a0 y272 (y272.length : Int) 0)) else (none)) else (none)) = some r := h
 clear h
 obtain ⟨ji2, hji2⟩ : ∃ j_ : Int, (wrap64 (a0 + 1)) = j_ := ⟨_, rfl⟩
 replace H : (if 0 ≤ (ji2) then (if (ji2 : Int).toNat ≤ 11728124029610 then ((some (List.replicate (ji2 : Int).toNat [] : List (List Int))).bind fun y272 => (expr_newSpans.l0 k a0 y272 (y272.length : Int) 0)) else (none)) else (none)) = some r := by first | (rw [hji2] at H; exact H) | (simp only [hji2] at H ⊢; exact H)
 have hji2w : (IntKind.i64.wrap (a0 + 1)) = ji2 := (i64_w _).trans hji2
 by_cases c3 : 0 ≤ (ji2)
 ·rw [if_pos c3] at H
  have c3b0 := eq_true c3
  have c3b1 : decide (0 ≤ (ji2)) = true := decide_eq_true c3
  clear c3
  by_cases c4 : (ji2 : Int).toNat ≤ 11728124029610
  ·rw [if_pos c4] at H
   have c4b0 := eq_true c4
   have c4b1 : decide ((ji2 : Int).toNat ≤ 11728124029610) = true := decide_eq_true c4
   clear c4
   obtain ⟨y272, hy272⟩ : ∃ y_ : List (List Int), y_ = (List.replicate (ji2 : Int).toNat []) := ⟨_, rfl⟩
   replace H : (expr_newSpans.l0 k a0 y272 (y272.length : Int) 0) = some r := by first | (rw [hy272]; with_reducible exact H) | (have H2_ := (Option.bind_some _ _).symm.trans H; rw [hy272]; with_reducible exact H2_) | (have H2_ := (Option.bind_some _ _).symm.trans H; with_reducible exact H2_) | with_reducible exact H | (rw [hy272]; exact H) | exact H
   have Ny272 := Aside0.mk hy272
   clear hy272
   have H' := Aside0.mk H
   clear H
   go_enter Try.func74, Try.ntmps74
   go_wp2_with (first | ((with_reducible refine gate_dst (N := 7) rfl ?_); refine Kd.S_make (Kd.slice 71 (Kd.int .u64)) _ 70 rfl (N := 7) rfl 57 _ _ rfl ji2 rfl rfl Try.underlying57 (.slice none 0 0) 24 info70 rfl (by decide) (by omega) [] (ok := fun _ => True) (okp := fun _ => True) ⟨_, rfl, Kd.R_nil _ _ _ _ _⟩ (fun _ hk => hk) trivial (of_decide_eq_true (by first | (with_reducible assumption) | assumption)) (Nat.le_trans (Nat.mul_le_mul_right _ (of_decide_eq_true (by first | (with_reducible assumption) | assumption) : ji2.toNat ≤ 11728124029610)) (by omega)) (Below.refl _ _) (Nat.le_refl _) ?_; intro v273 w5 ho6 hb hg_ hnew_; clear hg_ hnew_; (first | rw [← Ny272.out] at ho6 | (simp only [Int.reduceToNat] at ho6; rw [← Ny272.out] at ho6)); have n0_ := Aside0.mk (Kd.S_lower ho6 (below_size (bB))); have n1_ := Aside0.mk (below_step (bB) hb); clear HB; have HO274 := n0_; have HB := n1_; clear n0_ n1_; clear hb ho6; obtain ⟨Ao7, co7, eo7⟩ := Kd.S_slice HO274.out; subst eo7))
   go_loopg [10] k (fun kq v10 w' => ∃ (x3_1 : List (List Int)) (x10_1 : Int), v10 = .int .i64 x10_1 ∧ Aside0 (expr_newSpans.l0 kq a0 x3_1 (y272.length : Int) x10_1 = some r) ∧ Aside0 (kq ≤ k) ∧ Aside0 (Kd.S (Kd.slice 71 (Kd.int .u64)) 70 w' w.heap.size (fun _ => True) (.slice Ao7 y272.length co7) x3_1) ∧ Aside0 (Below w.heap.size w w'))
   case atStart => exact ⟨(y272), (0), (by first | rfl | (simp; done) | (simp [*]; done)), H', ⟨Nat.le_refl _⟩, ⟨by (with_reducible repeat (first | apply Kd.S_alloc | apply Kd.S_drewN | apply Kd.S_drew)); exact HO274.out⟩, ⟨bB⟩⟩
   case round =>
    clear H'
    try clear c3
    try clear c3b0
    try clear c3b1
    try clear c4
    try clear c4b0
    try clear c4b1
    obtain ⟨x3_1, x10_1, rfl, HA, HK1, HO_3, HB⟩ := hrel
    have hl3_1 := (Kd.S_reads' HO_3.out).1
    rw [hl3_1] at HO_3
    (try simp only [hl3_1])
    cases gk with
    | zero => exact absurd HA.out (by simp [expr_newSpans.l0])
    | succ k1 =>
     have H := HA.out
     clear HA
     simp only [expr_newSpans.l0] at H
     by_cases c8 : x10_1 < (y272.length : Int)
     ·rw [if_pos c8] at H
      have c8b0 : decide (x10_1 < (y272.length : Int)) = true := decide_eq_true c8
      (try (have c8b0h := c8b0; simp only [hl3_1] at c8b0h))
      clear c8
      obtain ⟨ji9, hji9⟩ : ∃ j_ : Int, (wrap64 ((wrap64 (Int.tdiv a0 64)) + 1)) = j_ := ⟨_, rfl⟩
      replace H : (if 0 ≤ (ji9) then (if (ji9 : Int).toNat ≤ 35184372088832 then (if 0 ≤ x10_1 then (if x10_1 < (x3_1.length : Int) then (expr_newSpans.l0 k1 a0 (x3_1.set (x10_1 : Int).toNat (List.replicate (ji9 : Int).toNat 0)) (y272.length : Int) (wrap64 (x10_1 + 1))) else (none)) else (none)) else (none)) else (none)) = some r := by first | (rw [hji9] at H; exact H) | (simp only [hji9] at H ⊢; exact H)
      have hji9w : (IntKind.i64.wrap ((wrap64 (Int.tdiv a0 64)) + 1)) = ji9 := (i64_w _).trans hji9
      by_cases c10 : 0 ≤ (ji9)
      ·rw [if_pos c10] at H
       have c10b0 := eq_true c10
       have c10b1 : decide (0 ≤ (ji9)) = true := decide_eq_true c10
       clear c10
       by_cases c11 : (ji9 : Int).toNat ≤ 35184372088832
       ·rw [if_pos c11] at H
        have c11b0 := eq_true c11
        have c11b1 : decide ((ji9 : Int).toNat ≤ 35184372088832) = true := decide_eq_true c11
        clear c11
        obtain ⟨y275, hy275⟩ : ∃ y_ : List Int, y_ = (List.replicate (ji9 : Int).toNat 0) := ⟨_, rfl⟩
        replace H : (if 0 ≤ x10_1 then (if x10_1 < (x3_1.length : Int) then (expr_newSpans.l0 k1 a0 (x3_1.set (x10_1 : Int).toNat y275) (y272.length : Int) (wrap64 (x10_1 + 1))) else (none)) else (none)) = some r := by first | (rw [hy275]; with_reducible exact H) | (have H2_ := (Option.bind_some _ _).symm.trans H; rw [hy275]; with_reducible exact H2_) | (have H2_ := (Option.bind_some _ _).symm.trans H; with_reducible exact H2_) | with_reducible exact H | (rw [hy275]; exact H) | exact H
        have Ny275 := Aside0.mk hy275
        clear hy275
        by_cases c12 : 0 ≤ x10_1
        ·rw [if_pos c12] at H
         have c12b0 : decide (0 ≤ x10_1) = true := decide_eq_true c12
         clear c12
         by_cases c13 : x10_1 < (x3_1.length : Int)
         ·rw [if_pos c13] at H
          have c13b0 : decide (x10_1 < (x3_1.length : Int)) = true := decide_eq_true c13
          (try (have c13b0h := c13b0; simp only [hl3_1] at c13b0h))
          clear c13
          obtain ⟨y278, hy278⟩ : ∃ y_ : List (List Int), y_ = (x3_1.set (x10_1 : Int).toNat y275) := ⟨_, rfl⟩
          replace H : (expr_newSpans.l0 k1 a0 y278 (y272.length : Int) (wrap64 (x10_1 + 1))) = some r := by first | (rw [hy278]; with_reducible exact H) | (have H2_ := (Option.bind_some _ _).symm.trans H; rw [hy278]; with_reducible exact H2_) | (have H2_ := (Option.bind_some _ _).symm.trans H; with_reducible exact H2_) | with_reducible exact H | (rw [hy278]; exact H) | exact H
          have Ny278 := Aside0.mk hy278
          clear hy278
          have H' := Aside0.mk H
          clear H
          go_wp2_with (first | ((with_reducible refine gate_dst (N := 18) rfl ?_); refine Kd.R_make (Kd.int .u64) _ 71 rfl (N := 18) rfl 70 _ _ rfl ji9 rfl rfl Try.underlying70 (.int .u64 0) 8 info71 rfl (by decide) (by omega) 0 (ok := fun _ => True) (okp := fun _ => True) rfl (fun _ hk => hk) trivial (of_decide_eq_true (by first | (with_reducible assumption) | assumption)) (Nat.le_trans (Nat.mul_le_mul_right _ (of_decide_eq_true (by first | (with_reducible assumption) | assumption) : ji9.toNat ≤ 35184372088832)) (by omega)) (Below.refl _ _) (Nat.le_refl _) ?_; intro v276 w15 ho16 hb hg_ hnew_; clear hg_ hnew_; (first | rw [← Ny275.out] at ho16 | (simp only [Int.reduceToNat] at ho16; rw [← Ny275.out] at ho16)); have n0_ := Aside0.mk (Kd.S_elder' (by (with_reducible repeat (first | apply Kd.S_alloc | apply Kd.S_drewN | apply Kd.S_drew)); exact HO_3.out) (Kd.R_base ho16) hb); have n1_ := Aside0.mk (Kd.R_lower ho16 (below_size (bB))); have n2_ := Aside0.mk (below_step (bB) hb); clear HO_3; clear HB; have HO_3 := n0_; have HO277 := n1_; have HB := n2_; clear n0_ n1_ n2_; clear hb ho16; have p14 : 0 ≤ (x10_1 : Int) := of_decide_eq_true (by first | (with_reducible assumption) | assumption); have q14 : (x10_1 : Int) < ((x3_1.length : Int) : Int) := of_decide_eq_true (by first | (with_reducible assumption) | assumption); obtain ⟨go14, co14, eo14, gb14, gl14, cl14, HG14⟩ := Kd.S_form HO_3.out (by omega); (first | cases eo14 | (injection eo14 with ea_ en_ ec_; (first | subst ea_ | (injection ea_ with ea_; subst ea_)); subst ec_; clear en_)); have GB14 := Aside0.mk gb14; have GG14 := Aside0.mk HG14; clear gb14 gl14 HG14; obtain ⟨_, ce14, hcl14, hM14, hcc14, hfr14, _, _⟩ := Kd.S_elem HO_3.out [] (x10_1 : Int) p14 q14; obtain ⟨ve14_0, rfl, ge14_0⟩ := hM14; have hx14_0 := hcc14 0 _ rfl; have hf14_0 := hfr14 0; (try simp only [show ((Kd.slice 71 (Kd.int .u64))).sz = 1 from rfl, Nat.mul_one, Nat.add_zero] at hx14_0); (try simp only [show ((Kd.slice 71 (Kd.int .u64))).sz = 1 from rfl, Nat.mul_one, Nat.add_zero] at hf14_0); clear hcl14 hcc14 hfr14; (try clear hM14); replace p14 := eq_true p14; replace q14 := eq_true q14; obtain ⟨Ao19, co19, eo19⟩ := Kd.R_slice HO277.out; subst eo19; have n_ := Aside0.mk (Kd.S_mono (ok' := (fun k_ => some k_ ≠ (.slice Ao19 y275.length co19 : Value).ownBlock)) HO_3.out (fun k_ hk => hk.2)); clear HO_3; have HO_3 := n_; clear n_; have HX17 := Aside0.mk (show Kd.S (Kd.slice 71 (Kd.int .u64)) 70 w15 w.heap.size (fun k_ => ((fun _ => True)) k_ ∧ ¬ ((fun k_ => some k_ = (.slice Ao19 y275.length co19 : Value).ownBlock)) k_) (.slice (some ⟨go14, 0, none⟩) x3_1.length co7) x3_1 from (by (with_reducible repeat (first | apply Kd.S_alloc | apply Kd.S_drewN | apply Kd.S_drew)); exact Kd.S_mono HO_3.out (fun k_ hk => ⟨trivial, fun e_ => hk e_⟩))); obtain ⟨oki17, ce17, hcl17, hM17, hcc17, hfr17, hoki17, hH17⟩ := Kd.S_elem HX17.out [] (x10_1 : Int) (of_decide_eq_true (by first | (with_reducible assumption) | assumption)) (by have h_ : (x10_1 : Int) < ((x3_1.length : Int) : Int) := of_decide_eq_true (by first | (with_reducible assumption) | assumption); first | exact h_ | (have e_ := (Kd.S_reads' HO_3.out).1; omega) | simpa using h_); obtain ⟨ve17_0, rfl, ge17_0⟩ := hM17; have HP17 := Kd.S_seg hH17 (of_decide_eq_true (by first | (with_reducible assumption) | assumption)) (by have h_ : (x10_1 : Int) < ((x3_1.length : Int) : Int) := of_decide_eq_true (by first | (with_reducible assumption) | assumption); first | exact h_ | (have e_ := (Kd.S_reads' HO_3.out).1; omega) | simpa using h_) (seg := [.slice Ao19 y275.length co19]) (j := 0) (show 1 ≤ 1 from by decide) (x' := y275) (Kd.M_row (Kd.R_mono (Kd.R_tight rfl (Kd.R_mono (ok' := fun k_ => ((fun _ => True)) k_ ∧ k_ ≠ go14) (Kd.R_apart' (HO277.out) (Kd.S_typed HO_3.out) (by decide)) (fun k_ hk => ⟨trivial, fun e_ => (hk.2) (by rw [e_]; rfl)⟩))) (fun _ h_ => Or.inr (h_)))) (fun _ hk => hk) (fun k_ hk_ => ((Kd.R_mono (ok' := fun k_ => ((fun _ => True)) k_ ∧ k_ ≠ go14) (Kd.R_apart' (HO277.out) (Kd.S_typed HO_3.out) (by decide)) (fun k_ hk => ⟨trivial, fun e_ => (hk.2) (by rw [e_]; rfl)⟩))).1 k_ hk_.symm); have hx17_0 := hcc17 0 _ rfl; (try simp only [show ((Kd.slice 71 (Kd.int .u64))).sz = 1 from rfl, Nat.mul_one, Nat.add_zero] at hx17_0); have hf17_0 := hfr17 0; (try simp only [show ((Kd.slice 71 (Kd.int .u64))).sz = 1 from rfl, Nat.mul_one, Nat.add_zero] at hf17_0); (try clear hcl17); (try clear hcc17); (try clear hfr17); (try clear hM17); (try clear hoki17); (try clear hH17); (try simp only [show ((Kd.slice 71 (Kd.int .u64))).sz = 1 from rfl, Nat.mul_one, Nat.add_zero] at HP17)) | ((with_reducible refine gate_store (t := 70) (p := 19) rfl ?_); refine store_event (t := 70) (p := 19) (v := ?vo_w18) (w1 := (w15.setCell ⟨go14, (x10_1 : Int).toNat, none⟩ (.slice Ao19 y275.length co19))) ?hg ?ho ?hn ?hr ?_; (case ho => rfl); (case hg => rfl); (case hn => rfl); (case hr => first | (go_simp; done) | (go_simp; rfl)); intro w18 hw; have hg : w15.grownBy w18 (some go14) := (by rw [hw]; exact HP17.2); have hp_ : Kd.S (Kd.slice 71 (Kd.int .u64)) 70 w18 w.heap.size (fun _ => True) (.slice (some ⟨go14, 0, none⟩) x3_1.length co7) y278 := (by rw [hw, Ny278.out]; exact HP17.1); clear HP17; have n0_ := Aside0.mk (hp_); have n1_ := Aside0.mk ((by rw [hw]; exact below_set (HB.out) GB14.out : Below w.heap.size w w18)); clear HO_3; clear HB; clear HO277; have HO_3 := n0_; have HB := n1_; clear n0_ n1_; clear hg hw hp_))
          (try simp only [← hl3_1])
          (first | go_roundg k1 | ((simp only [add_plain] at *); go_roundg k1))
          case measure => have := HK1.out; omega
          case rel => exact ⟨(y278), (wrap64 (x10_1 + 1)), (by first | rfl | (simp; done) | (simp [*]; done)), H', ⟨by have := HK1.out; omega⟩, ⟨by (try simp only [hl3_1]); (with_reducible repeat (first | apply Kd.S_alloc | apply Kd.S_drewN | apply Kd.S_drew)); exact HO_3.out⟩, ⟨bB⟩⟩
         ·rw [if_neg c13] at H
          exact absurd H (by simp)
        ·rw [if_neg c12] at H
         exact absurd H (by simp)
       ·rw [if_neg c11] at H
        exact absurd H (by simp)
      ·rw [if_neg c10] at H
       exact absurd H (by simp)
     ·rw [if_neg c8] at H
      have c8b0 : decide (x10_1 < (y272.length : Int)) = false := decide_eq_false c8
      (try (have c8b0h := c8b0; simp only [hl3_1] at c8b0h))
      clear c8
      obtain rfl := Option.some.inj H
      go_wp2
      go_ret
      exact ⟨_, by first | rfl | (simp [errW_none, errW_some] <;> rfl) | (simp only [← hji2]; first | rfl | (simp [errW_none, errW_some] <;> rfl)) | (simp [*, errW_none, errW_some] <;> rfl), by (with_reducible repeat (first | apply Kd.S_alloc | apply Kd.S_drewN | apply Kd.S_drew)); exact HO_3.out, bB⟩
  ·rw [if_neg c4] at H
   exact absurd H (by simp)
 ·rw [if_neg c3] at H
  exact absurd H (by simp)
end Go.Proofs.Ytjofkebiacaciaa.PAll
end
section
namespace Go.Proofs.Ytjofkebiacaciaa.PAll
open Go.RowKit Go.Proofs.YtjofkebiacaciaaW.PrintWords Go.Proofs.YtjofkebiacaciaaW.PrintLast Go.Proofs.YtjofkebiacaciaaW.PrintMore
attribute [local go_sem] max2_int min2_int max_two min_two max_three min_three max_four min_four
set_option linter.unusedVariables false
set_option linter.unusedSimpArgs false
mutual
def expr_spans_then.l0 : Nat → List (List Int) → List (List Int) → List (List Int) → Int → Int → Option ((List (List Int)))
 | 0, _, _, _, _, _ => none
 | k + 1, x0, x1, x5, x14, x15 => if x15 < x14 then (expr_spans_then.l1 k x0 x1 x5 x15 x15 x14 x15) else (some x5)
def expr_spans_then.l1 : Nat → List (List Int) → List (List Int) → List (List Int) → Int → Int → Int → Int → Option ((List (List Int)))
 | 0, _, _, _, _, _, _, _ => none
 | k + 1, x0, x1, x5, x6, x7, x14, x15 => if x7 < (x0.length : Int) then ((expr_spans_has.f x0 x6 x7).bind fun t284 => (if t284 = true then (if 0 ≤ x7 then (if x7 < (x1.length : Int) then (expr_spans_then.l2 k x0 x1 x5 x6 x7 x14 x15 ((rd_L4 x1 x7).length : Int) 0) else (none)) else (none)) else (expr_spans_then.l1 k x0 x1 x5 x6 (wrap64 (x7 + 1)) x14 x15))) else (expr_spans_then.l0 k x0 x1 x5 x14 (wrap64 (x15 + 1)))
def expr_spans_then.l2 : Nat → List (List Int) → List (List Int) → List (List Int) → Int → Int → Int → Int → Int → Int → Option ((List (List Int)))
 | 0, _, _, _, _, _, _, _, _, _ => none
 | k + 1, x0, x1, x5, x6, x7, x14, x15, x33, x34 => if x34 < x33 then (if 0 ≤ x6 then (if x6 < (x5.length : Int) then (if 0 ≤ x34 then (if x34 < ((rd_L4 x5 x6).length : Int) then (if 0 ≤ x7 then (if x7 < (x1.length : Int) then (if x34 < ((rd_L4 x1 x7).length : Int) then (expr_spans_then.l2 k x0 x1 (x5.set (x6 : Int).toNat ((rd_L4 x5 x6).set (x34 : Int).toNat (Go.bits .or .u64 (rd (rd_L4 x5 x6) x34) (rd (rd_L4 x1 x7) x34)))) x6 x7 x14 x15 x33 (wrap64 (x34 + 1))) else (none)) else (none)) else (none)) else (none)) else (none)) else (none)) else (none)) else (expr_spans_then.l1 k x0 x1 x5 x6 (wrap64 (x7 + 1)) x14 x15)
end
def expr_spans_then.f (k : Nat) (l0 : List (List Int)) (l1 : List (List Int)) : Option ((List (List Int))) := (expr_newSpans.f k (wrap64 ((l0.length : Int) - 1))).bind fun t281 => (expr_spans_then.l0 k l0 l1 t281 (l0.length : Int) 0)
theorem expr_spans_then.mono_l : ∀ k, (∀ y0 y1 y2 y3 y4, LeO (expr_spans_then.l0 k y0 y1 y2 y3 y4) (expr_spans_then.l0 (k + 1) y0 y1 y2 y3 y4)) ∧ (∀ y0 y1 y2 y3 y4 y5 y6, LeO (expr_spans_then.l1 k y0 y1 y2 y3 y4 y5 y6) (expr_spans_then.l1 (k + 1) y0 y1 y2 y3 y4 y5 y6)) ∧ (∀ y0 y1 y2 y3 y4 y5 y6 y7 y8, LeO (expr_spans_then.l2 k y0 y1 y2 y3 y4 y5 y6 y7 y8) (expr_spans_then.l2 (k + 1) y0 y1 y2 y3 y4 y5 y6 y7 y8))
 | 0 => ⟨fun _ _ _ _ _ r h => by simp [expr_spans_then.l0] at h, fun _ _ _ _ _ _ _ r h => by simp [expr_spans_then.l1] at h, fun _ _ _ _ _ _ _ _ _ r h => by simp [expr_spans_then.l2] at h⟩
 | k + 1 => by
  obtain ⟨ih0, ih1, ih2⟩ := expr_spans_then.mono_l k
  refine ⟨?_, ?_, ?_⟩
  ·intro y0 y1 y2 y3 y4
   unfold expr_spans_then.l0
   repeat' first
   | (with_reducible exact ih0 _ _ _ _ _)
   | (with_reducible exact ih1 _ _ _ _ _ _ _)
   | (with_reducible exact ih2 _ _ _ _ _ _ _ _ _)
   | (with_reducible exact expr_newSpans.mono _ _)
   | (with_reducible exact LeO.refl _)
   | (with_reducible exact LeO.none _)
   | (with_reducible refine LeO.ite ?_ ?_)
   | (with_reducible refine LeO.bind ?_ (fun _ => ?_))
   | exact ih0 _ _ _ _ _
   | exact ih1 _ _ _ _ _ _ _
   | exact ih2 _ _ _ _ _ _ _ _ _
   | exact expr_newSpans.mono _ _
   | exact LeO.none _
   | refine LeO.ite ?_ ?_
   | refine LeO.bind ?_ (fun _ => ?_)
  ·intro y0 y1 y2 y3 y4 y5 y6
   unfold expr_spans_then.l1
   repeat' first
   | (with_reducible exact ih0 _ _ _ _ _)
   | (with_reducible exact ih1 _ _ _ _ _ _ _)
   | (with_reducible exact ih2 _ _ _ _ _ _ _ _ _)
   | (with_reducible exact expr_newSpans.mono _ _)
   | (with_reducible exact LeO.refl _)
   | (with_reducible exact LeO.none _)
   | (with_reducible refine LeO.ite ?_ ?_)
   | (with_reducible refine LeO.bind ?_ (fun _ => ?_))
   | exact ih0 _ _ _ _ _
   | exact ih1 _ _ _ _ _ _ _
   | exact ih2 _ _ _ _ _ _ _ _ _
   | exact expr_newSpans.mono _ _
   | exact LeO.none _
   | refine LeO.ite ?_ ?_
   | refine LeO.bind ?_ (fun _ => ?_)
  ·intro y0 y1 y2 y3 y4 y5 y6 y7 y8
   unfold expr_spans_then.l2
   repeat' first
   | (with_reducible exact ih0 _ _ _ _ _)
   | (with_reducible exact ih1 _ _ _ _ _ _ _)
   | (with_reducible exact ih2 _ _ _ _ _ _ _ _ _)
   | (with_reducible exact expr_newSpans.mono _ _)
   | (with_reducible exact LeO.refl _)
   | (with_reducible exact LeO.none _)
   | (with_reducible refine LeO.ite ?_ ?_)
   | (with_reducible refine LeO.bind ?_ (fun _ => ?_))
   | exact ih0 _ _ _ _ _
   | exact ih1 _ _ _ _ _ _ _
   | exact ih2 _ _ _ _ _ _ _ _ _
   | exact expr_newSpans.mono _ _
   | exact LeO.none _
   | refine LeO.ite ?_ ?_
   | refine LeO.bind ?_ (fun _ => ?_)
theorem expr_spans_then.mono : ∀ a0 a1 k, LeO (expr_spans_then.f k a0 a1) (expr_spans_then.f (k + 1) a0 a1) := by
 intro a0 a1 k
 obtain ⟨ih0, ih1, ih2⟩ := expr_spans_then.mono_l k
 unfold expr_spans_then.f
 repeat' first
   | (with_reducible exact ih0 _ _ _ _ _)
   | (with_reducible exact ih1 _ _ _ _ _ _ _)
   | (with_reducible exact ih2 _ _ _ _ _ _ _ _ _)
   | (with_reducible exact expr_newSpans.mono _ _)
   | (with_reducible exact LeO.refl _)
   | (with_reducible exact LeO.none _)
   | (with_reducible refine LeO.ite ?_ ?_)
   | (with_reducible refine LeO.bind ?_ (fun _ => ?_))
   | exact ih0 _ _ _ _ _
   | exact ih1 _ _ _ _ _ _ _
   | exact ih2 _ _ _ _ _ _ _ _ _
   | exact expr_newSpans.mono _ _
   | exact LeO.none _
   | refine LeO.ite ?_ ?_
   | refine LeO.bind ?_ (fun _ => ?_)
def expr_spans_then.T12 : Bool × List (List Nat × List Nat) := (true, [([], []), ([], []), ([0, 1], [0, 1]), ([2], [2]), ([], []), ([3, 4], [3, 4]), ([5], [5]), ([], []), ([], []), ([7, 8], [7, 8]), ([9], [9]), ([], []), ([10, 11], [10, 11]), ([12], [12]), ([6, 13], [6, 13]), ([3, 4, 0, 1, 2, 3, 4, 5, 6, 7, 8, 9, 10, 11, 12, 13, 14], [3, 4]), ([15, 14, 0, 1, 2, 3, 4, 5, 6, 7, 8, 9, 10, 11, 12, 13, 14], [14, 15])])
def expr_spans_then.B12 : List Nat := [0, 0, 3, 7, 0, 31, 63, 0, 0, 384, 896, 0, 3968, 8064, 16383, 32767, 65535]
theorem expr_spans_then.tab12 : rtab .any (opsOf Try.f76 12) = expr_spans_then.T12 := by kernel_rfl
theorem expr_spans_then.bits12 : waitsOk expr_spans_then.T12.2 expr_spans_then.B12 = true := by kernel_rfl
set_option maxHeartbeats 8000000 in
set_option maxRecDepth 100000 in
theorem expr_spans_then.calls (k : Nat) (A0 : Option Addr) (c0 : Nat) (l0 : List (List Int)) (A1 : Option Addr) (c1 : Nat) (l1 : List (List Int)) (r : List (List Int)) (w : World) (hr0 : Kd.C (Kd.slice 71 (Kd.int .u64)) w A0 l0.length l0) (hc0 : l0.length ≤ c0) (hr1 : Kd.C (Kd.slice 71 (Kd.int .u64)) w A1 l1.length l1) (hc1 : l1.length ≤ c1) (h : expr_spans_then.f k l0 l1 = some r) :
  Calls Try.prog 76 #[.slice A0 l0.length c0, .slice A1 l1.length c1] w fun e w' => ∃ v0_ : Value, e = .returned (v0_) ∧ Kd.S (Kd.slice 71 (Kd.int .u64)) 70 w' w.heap.size (fun _ => True) v0_ r ∧ Below w.heap.size w w' := by
 have HR0 := Aside0.mk hr0
 have HC0 := Aside0.mk hc0
 clear hr0 hc0
 have HR1 := Aside0.mk hr1
 have HC1 := Aside0.mk hc1
 clear hr1 hc1
 have HB := Aside0.mk (Below.refl w.heap.size w)
 have H : ((expr_newSpans.f k (wrap64 ((l0.length : Int) - 1))).bind fun t281 => (expr_spans_then.l0 k l0 l1 t281 (l0.length : Int) 0)) = some r := h
 clear h
 replace H := Option.bind_eq_some_iff.mp H
 obtain ⟨t281, A30, H⟩ := H
 replace H : (expr_spans_then.l0 k l0 l1 t281 (l0.length : Int) 0) = some r := H
 have A3 := Aside0.mk A30
 clear A30
 have H' := Aside0.mk H
 clear H
 go_enter Try.func76, Try.ntmps76
 go_wp2_with (first | ((with_reducible refine gate_callee (f := 74) rfl ?_); (fail_if_success (have chk_ := HO283)); refine goesL_ (some 12) rfl rfl Try.func74 (by kernel_rfl) rfl #[.int .i64 (wrap64 ((l0.length : Int) - 1))] rfl (by (try simp only [List.map_toArray, List.map_cons, List.map_nil]); first | done | rfl | (simp only [List.length_drop, List.length_take]; rfl) | (simp only [Int.ofNat_lt, Int.ofNat_le]; rfl)) ?_; (with_reducible refine (expr_newSpans.calls k (wrap64 ((l0.length : Int) - 1)) t281 _ A3.out).mono ?_); rintro e w4 ⟨v282, rfl, ho0, hb⟩; refine ⟨_, rfl, ?_⟩; have n0_ := Aside0.mk (Kd.S_lower ho0 (below_size (bB))); have n1_ := Aside0.mk (below_step (bB) hb); clear HB; have HO283 := n0_; have HB := n1_; clear n0_ n1_; (try clear hb); (try clear hb2); (try clear hk); (try clear hi); (try clear ho0)))
 go_loopg [15] k (fun kq v15 w' => ∃ (x5_1 : List (List Int)) (x15_1 : Int), v15 = .int .i64 x15_1 ∧ Aside0 (expr_spans_then.l0 kq l0 l1 x5_1 (l0.length : Int) x15_1 = some r) ∧ Aside0 (kq ≤ k) ∧ Aside0 (Kd.S (Kd.slice 71 (Kd.int .u64)) 70 w' w.heap.size (fun _ => True) v282 x5_1) ∧ Aside0 (Below w.heap.size w w'))
 case atStart => exact ⟨(t281), (0), (by first | rfl | (simp; done) | (simp [*]; done)), H', ⟨Nat.le_refl _⟩, ⟨by (with_reducible repeat (first | apply Kd.S_alloc | apply Kd.S_drewN | apply Kd.S_drew)); exact HO283.out⟩, ⟨bB⟩⟩
 case round =>
  clear H'
  try clear c1
  obtain ⟨x5_1, x15_1, rfl, HA, HK1, HO_5, HB⟩ := hrel
  cases gk with
  | zero => exact absurd HA.out (by simp [expr_spans_then.l0])
  | succ k1 =>
   have H := HA.out
   clear HA
   simp only [expr_spans_then.l0] at H
   by_cases c5 : x15_1 < (l0.length : Int)
   ·rw [if_pos c5] at H
    have c5b0 : decide (x15_1 < (l0.length : Int)) = true := decide_eq_true c5
    clear c5
    have H' := Aside0.mk H
    clear H
    go_wp2
    go_loopg [7] k1 (fun kq v7 w' => ∃ (x5_2 : List (List Int)) (x7_2 : Int), v7 = .int .i64 x7_2 ∧ Aside0 (expr_spans_then.l1 kq l0 l1 x5_2 x15_1 x7_2 (l0.length : Int) x15_1 = some r) ∧ Aside0 (kq ≤ k1) ∧ Aside0 (Kd.S (Kd.slice 71 (Kd.int .u64)) 70 w' w.heap.size (fun _ => True) v282 x5_2) ∧ Aside0 (Below w.heap.size w w'))
    case atStart => exact ⟨(x5_1), (x15_1), (by first | rfl | (simp; done) | (simp [*]; done)), H', ⟨Nat.le_refl _⟩, ⟨by (with_reducible repeat (first | apply Kd.S_alloc | apply Kd.S_drewN | apply Kd.S_drew)); exact HO_5.out⟩, ⟨bB⟩⟩
    case round =>
     clear H'
     try clear c1
     try clear c5
     try clear c5b0
     obtain ⟨x5_2, x7_2, rfl, HA, HK2, HO_5, HB⟩ := hrel
     cases gk with
     | zero => exact absurd HA.out (by simp [expr_spans_then.l1])
     | succ k2 =>
      have H := HA.out
      clear HA
      simp only [expr_spans_then.l1] at H
      by_cases c6 : x7_2 < (l0.length : Int)
      ·rw [if_pos c6] at H
       have c6b0 : decide (x7_2 < (l0.length : Int)) = true := decide_eq_true c6
       clear c6
       replace H := Option.bind_eq_some_iff.mp H
       obtain ⟨t284, A70, H⟩ := H
       replace H : (if t284 = true then (if 0 ≤ x7_2 then (if x7_2 < (l1.length : Int) then (expr_spans_then.l2 k2 l0 l1 x5_2 x15_1 x7_2 (l0.length : Int) x15_1 ((rd_L4 l1 x7_2).length : Int) 0) else (none)) else (none)) else (expr_spans_then.l1 k2 l0 l1 x5_2 x15_1 (wrap64 (x7_2 + 1)) (l0.length : Int) x15_1)) = some r := H
       have A7 := Aside0.mk A70
       clear A70
       by_cases c8 : t284 = true
       ·subst c8
        have H1 : (if 0 ≤ x7_2 then (if x7_2 < (l1.length : Int) then (expr_spans_then.l2 k2 l0 l1 x5_2 x15_1 x7_2 (l0.length : Int) x15_1 ((rd_L4 l1 x7_2).length : Int) 0) else (none)) else (none)) = some r := by rw [if_pos rfl] at H; exact H
        clear H
        have H := H1
        clear H1
        by_cases c9 : 0 ≤ x7_2
        ·rw [if_pos c9] at H
         have c9b0 : decide (0 ≤ x7_2) = true := decide_eq_true c9
         clear c9
         by_cases c10 : x7_2 < (l1.length : Int)
         ·rw [if_pos c10] at H
          have c10b0 : decide (x7_2 < (l1.length : Int)) = true := decide_eq_true c10
          clear c10
          have H' := Aside0.mk H
          clear H
          go_wp2_with (first | ((with_reducible refine gate_callee (f := 61) rfl ?_); refine goesL_ (some 28) rfl rfl Try.func61 (by kernel_rfl) rfl #[.slice A0 l0.length c0, .int .i64 x15_1, .int .i64 x7_2] rfl (by (try simp only [List.map_toArray, List.map_cons, List.map_nil]); first | done | rfl | (simp only [List.length_drop, List.length_take]; rfl) | (simp only [Int.ofNat_lt, Int.ofNat_le]; rfl)) ?_; (with_reducible refine (expr_spans_has.calls _ _ l0 x15_1 x7_2 true _ ?side1 ?side2 A7.out).mono ?_); (case side1 => repeat (first | exact (Kd.C_below HR0.out HB.out) | (with_reducible refine Kd.C_alloc ?_ _) | (with_reducible refine Kd.C_drewN ?_ _) | (with_reducible refine Kd.C_drew ?_))); (case side2 => exact HC0.out); rintro e w' ⟨rfl, ⟨nd, rfl⟩⟩; refine ⟨_, rfl, ?_⟩; have p285 : 0 ≤ (x7_2 : Int) := of_decide_eq_true (by first | (with_reducible assumption) | assumption); have q285 : x7_2 < (l1.length : Int) := of_decide_eq_true (by first | (with_reducible assumption) | assumption); obtain ⟨ad285, A285_0, c285_0, e285, hx285_0, hl285_0, hi285_0⟩ := at_L4 HR1.out x7_2 p285 q285; cases e285; replace hx285_0 := (HB.out.cell (World.block_lt_of_cell? w _ hx285_0)).trans hx285_0; have HR285_0 := Aside0.mk hi285_0; have HC285_0 := Aside0.mk hl285_0; clear hi285_0 hl285_0; replace p285 := eq_true p285; replace q285 := eq_true q285))
          go_loopg [34] k2 (fun kq v34 w' => ∃ (x5_3 : List (List Int)) (x34_3 : Int), v34 = .int .i64 x34_3 ∧ Aside0 (expr_spans_then.l2 kq l0 l1 x5_3 x15_1 x7_2 (l0.length : Int) x15_1 ((rd_L4 l1 x7_2).length : Int) x34_3 = some r) ∧ Aside0 (kq ≤ k2) ∧ Aside0 (Kd.S (Kd.slice 71 (Kd.int .u64)) 70 w' w.heap.size (fun _ => True) v282 x5_3) ∧ Aside0 (Below w.heap.size w w'))
          case atStart => exact ⟨(x5_2), (0), (by first | rfl | (simp; done) | (simp [*]; done)), H', ⟨Nat.le_refl _⟩, ⟨by (with_reducible repeat (first | apply Kd.S_alloc | apply Kd.S_drewN | apply Kd.S_drew)); exact HO_5.out⟩, ⟨bB⟩⟩
          case round =>
           clear H'
           try clear c1
           try clear c5
           try clear c5b0
           try clear c6
           try clear c6b0
           try clear c8
           try clear c9
           try clear c9b0
           try clear c10
           try clear c10b0
           try clear hx285_0
           try clear p285
           try clear q285
           obtain ⟨x5_3, x34_3, rfl, HA, HK3, HO_5, HB⟩ := hrel
           cases gk with
           | zero => exact absurd HA.out (by simp [expr_spans_then.l2])
           | succ k3 =>
            have H := HA.out
            clear HA
            simp only [expr_spans_then.l2] at H
            by_cases c11 : x34_3 < ((rd_L4 l1 x7_2).length : Int)
            ·rw [if_pos c11] at H
             have c11b0 : decide (x34_3 < ((rd_L4 l1 x7_2).length : Int)) = true := decide_eq_true c11
             clear c11
             by_cases c12 : 0 ≤ x15_1
             ·rw [if_pos c12] at H
              have c12b0 : decide (0 ≤ x15_1) = true := decide_eq_true c12
              clear c12
              by_cases c13 : x15_1 < (x5_3.length : Int)
              ·rw [if_pos c13] at H
               have c13b0 : decide (x15_1 < (x5_3.length : Int)) = true := decide_eq_true c13
               clear c13
               by_cases c14 : 0 ≤ x34_3
               ·rw [if_pos c14] at H
                have c14b0 : decide (0 ≤ x34_3) = true := decide_eq_true c14
                clear c14
                by_cases c15 : x34_3 < ((rd_L4 x5_3 x15_1).length : Int)
                ·rw [if_pos c15] at H
                 have c15b0 : decide (x34_3 < ((rd_L4 x5_3 x15_1).length : Int)) = true := decide_eq_true c15
                 clear c15
                 by_cases c16 : 0 ≤ x7_2
                 ·rw [if_pos c16] at H
                  have c16b0 : decide (0 ≤ x7_2) = true := decide_eq_true c16
                  clear c16
                  by_cases c17 : x7_2 < (l1.length : Int)
                  ·rw [if_pos c17] at H
                   have c17b0 : decide (x7_2 < (l1.length : Int)) = true := decide_eq_true c17
                   clear c17
                   by_cases c18 : x34_3 < ((rd_L4 l1 x7_2).length : Int)
                   ·rw [if_pos c18] at H
                    have c18b0 : decide (x34_3 < ((rd_L4 l1 x7_2).length : Int)) = true := decide_eq_true c18
                    clear c18
                    obtain ⟨y290, hy290⟩ : ∃ y_ : List Int, y_ = ((rd_L4 x5_3 x15_1).set (x34_3 : Int).toNat (Go.bits .or .u64 (rd (rd_L4 x5_3 x15_1) x34_3) (rd (rd_L4 l1 x7_2) x34_3))) := ⟨_, rfl⟩
                    replace H : (expr_spans_then.l2 k3 l0 l1 (x5_3.set (x15_1 : Int).toNat y290) x15_1 x7_2 (l0.length : Int) x15_1 ((rd_L4 l1 x7_2).length : Int) (wrap64 (x34_3 + 1))) = some r := by first | (rw [hy290]; with_reducible exact H) | (have H2_ := (Option.bind_some _ _).symm.trans H; rw [hy290]; with_reducible exact H2_) | (have H2_ := (Option.bind_some _ _).symm.trans H; with_reducible exact H2_) | with_reducible exact H | (rw [hy290]; exact H) | exact H
                    have Ny290 := Aside0.mk hy290
                    clear hy290
                    obtain ⟨y292, hy292⟩ : ∃ y_ : List (List Int), y_ = (x5_3.set (x15_1 : Int).toNat y290) := ⟨_, rfl⟩
                    replace H : (expr_spans_then.l2 k3 l0 l1 y292 x15_1 x7_2 (l0.length : Int) x15_1 ((rd_L4 l1 x7_2).length : Int) (wrap64 (x34_3 + 1))) = some r := by first | (rw [hy292]; with_reducible exact H) | (have H2_ := (Option.bind_some _ _).symm.trans H; rw [hy292]; with_reducible exact H2_) | (have H2_ := (Option.bind_some _ _).symm.trans H; with_reducible exact H2_) | with_reducible exact H | (rw [hy292]; exact H) | exact H
                    have Ny292 := Aside0.mk hy292
                    clear hy292
                    have H' := Aside0.mk H
                    clear H
                    try go_wp2
                    have n0_ := Aside0.mk (Kd.S_drew HO_5.out)
                    have n1_ := Aside0.mk (below_drew1 HB.out)
                    clear HO_5
                    clear HB
                    have HO_5 := n0_
                    have HB := n1_
                    clear n0_ n1_
                    obtain ⟨Ao21, co21, eo21⟩ := Kd.S_slice HO_5.out
                    (first | subst eo21 | (injection eo21 with f1_ f2_ f3_; have f4_ := f1_.symm; have f5_ := f3_.symm; clear f1_ f2_ f3_; subst f4_; subst f5_))
                    have p286 : 0 ≤ (x15_1 : Int) := of_decide_eq_true (by first | (with_reducible assumption) | assumption)
                    have q286 : x15_1 < (x5_3.length : Int) := of_decide_eq_true (by first | (with_reducible assumption) | assumption)
                    obtain ⟨ad286, A286_0, c286_0, e286, hx286_0, hl286_0, hi286_0⟩ := at_L4 (Kd.S_reads' HO_5.out).2.2 x15_1 p286 q286
                    cases e286
                    obtain ⟨ce286, hce286, hMe286, hcc286⟩ := Kd.S_get HO_5.out [] x15_1 p286 (by first | exact q286 | exact of_decide_eq_true (by first | (with_reducible assumption) | assumption) | (have e_ := (Kd.S_reads' HO_5.out).1; omega))
                    obtain ⟨ve286_0, rfl, ge286_0⟩ := hMe286
                    have hv286_0 := hcc286 0 _ rfl
                    rw [Nat.add_zero, show ((Kd.slice 71 (Kd.int .u64))).sz = 1 from rfl, Nat.mul_one] at hv286_0
                    replace hv286_0 := Option.some.inj (hv286_0.symm.trans hx286_0)
                    rw [hv286_0] at ge286_0
                    have HL286_0 := Aside0.mk (show Kd.R (Kd.int .u64) 71 _ _ _ _ (rd_L4 x5_3 x15_1) from ge286_0)
                    clear hv286_0 ge286_0
                    have HX286_0 := Aside0.mk hx286_0
                    clear hcc286 hce286
                    have HR286_0 := Aside0.mk hi286_0
                    have HC286_0 := Aside0.mk hl286_0
                    clear hi286_0 hl286_0
                    replace p286 := eq_true p286
                    replace q286 := eq_true q286
                    have p287 : 0 ≤ (x34_3 : Int) := of_decide_eq_true (by first | (with_reducible assumption) | assumption)
                    have q287 : x34_3 < ((rd_L4 x5_3 x15_1).length : Int) := of_decide_eq_true (by first | (with_reducible assumption) | assumption)
                    obtain ⟨ad287, e287, hx287_0⟩ := Kd.at_int (by repeat (first | (with_reducible exact HR286_0.out) | (with_reducible refine Kd.C_alloc ?_ _) | (with_reducible refine Kd.C_drewN ?_ _) | (with_reducible refine Kd.C_drew ?_) | exact HR286_0.out)) x34_3 p287 q287
                    cases e287
                    replace p287 := eq_true p287
                    replace q287 := eq_true q287
                    have p288 : 0 ≤ (x7_2 : Int) := of_decide_eq_true (by first | (with_reducible assumption) | assumption)
                    have q288 : x7_2 < (l1.length : Int) := of_decide_eq_true (by first | (with_reducible assumption) | assumption)
                    obtain ⟨ad288, A288_0, c288_0, e288, hx288_0, hl288_0, hi288_0⟩ := at_L4 HR1.out x7_2 p288 q288
                    have hw288_0 := hx288_0
                    obtain rfl : ad285 = ad288 := (by injection e288)
                    replace hx288_0 := (HB.out.cell (World.block_lt_of_cell? w _ hx288_0)).trans hx288_0
                    have HR288_0 := Aside0.mk hi288_0
                    have HC288_0 := Aside0.mk hl288_0
                    clear hi288_0 hl288_0
                    replace p288 := eq_true p288
                    replace q288 := eq_true q288
                    have p289 : 0 ≤ (x34_3 : Int) := of_decide_eq_true (by first | (with_reducible assumption) | assumption)
                    have q289 : x34_3 < ((rd_L4 l1 x7_2).length : Int) := of_decide_eq_true (by first | (with_reducible assumption) | assumption)
                    obtain ⟨ad289, e289, hx289_0⟩ := Kd.at_int HR288_0.out x34_3 p289 q289
                    have hw289_0 := hx289_0
                    cases e289
                    replace hx289_0 := (HB.out.cell (World.block_lt_of_cell? w _ hx289_0)).trans hx289_0
                    replace p289 := eq_true p289
                    replace q289 := eq_true q289
                    have p19 : 0 ≤ (x34_3 : Int) := of_decide_eq_true (by first | (with_reducible assumption) | assumption)
                    have q19 : (x34_3 : Int) < (((rd_L4 x5_3 x15_1).length : Int) : Int) := of_decide_eq_true (by first | (with_reducible assumption) | assumption)
                    obtain ⟨go19, co19, eo19, gb19, gl19, cl19, HG19⟩ := Kd.R_form HL286_0.out (by omega)
                    (first | cases eo19 | (injection eo19 with ea_ en_ ec_; (first | subst ea_ | (injection ea_ with ea_; subst ea_)); subst ec_; clear en_))
                    have GB19 := Aside0.mk gb19
                    have GG19 := Aside0.mk HG19
                    clear gb19 gl19 HG19
                    (first | simp only [add_plain] at hx287_0 | skip)
                    obtain ⟨hx19_0, hf19_0⟩ := Kd.R_celln 0 HL286_0.out (x34_3 : Int) p19 q19
                    replace p19 := eq_true p19
                    replace q19 := eq_true q19
                    have hq22 : (x15_1 : Int) < (x5_3.length : Int) := (by have h_ : (x15_1 : Int) < ((x5_3.length : Int) : Int) := of_decide_eq_true (by first | (with_reducible assumption) | assumption); first | exact h_ | (have e_ := (Kd.S_reads' HO_5.out).1; omega) | simpa only [List.length_set, List.length_set] using h_)
                    obtain ⟨oki22, ce22, hcl22, hM22, hcc22, hok22, hbk22⟩ := Kd.S_borrow HO_5.out [] (x15_1 : Int) (of_decide_eq_true (by first | (with_reducible assumption) | assumption)) hq22
                    obtain ⟨ve22_0, rfl, ge22_0⟩ := hM22
                    have hv22 := hcc22 0 _ rfl
                    rw [Nat.add_zero, show ((Kd.slice 71 (Kd.int .u64))).sz = 1 from rfl, Nat.mul_one] at hv22
                    replace hv22 := Option.some.inj (hv22.symm.trans HX286_0.out)
                    subst hv22
                    clear hcc22 hcl22
                    replace ge22_0 := (show Kd.R (Kd.int .u64) 71 _ _ _ _ (rd_L4 x5_3 x15_1) from ge22_0)
                    have HP22 := Kd.R_putg ge22_0 (x34_3 : Int) (Go.bits .or .u64 (rd (rd_L4 x5_3 x15_1) x34_3) (rd (rd_L4 l1 x7_2) x34_3))
                    rw [← Ny290.out] at HP22
                    have HS22 := hbk22 HP22.2 (fun k_ e_ => by injection e_ with e_; subst e_; exact ge22_0.1 _ rfl) (x' := y290) (Kd.M_row HP22.1)
                    rw [← Ny292.out] at HS22
                    have HQ22 := Aside0.mk HS22
                    clear HP22 HS22 hbk22 hok22
                    refine start_ (n := 17) (S := fun w' => w'.cell? (ad286.add (x15_1).toNat) = some (.slice (some ⟨go19, 0, none⟩) (rd_L4 x5_3 x15_1).length c286_0) ∧ w'.cell? ⟨go19, (x34_3).toNat, none⟩ = some (.int .u64 (rd (rd_L4 x5_3 x15_1) x34_3)) ∧ w'.cell? (ad285.add (x7_2).toNat) = some (.slice (some ad289) (rd_L4 l1 x7_2).length c288_0) ∧ w'.cell? (ad289.add (x34_3).toNat) = some (.int .u64 (rd (rd_L4 l1 x7_2) x34_3))) (ds := [16]) #[false, false, false, false, false, false, false, false, false, false, false, false, false, false, false, false, false] (by kernel_rfl) rfl rfl ⟨hx286_0, hx287_0, (by first | exact hx288_0 | exact ((HB.out.cell (World.block_lt_of_cell? w _ hw288_0)).trans hw288_0)), (by first | exact hx289_0 | exact ((HB.out.cell (World.block_lt_of_cell? w _ hw289_0)).trans hw289_0))⟩ (fun hHeld => ?_); refine with_tabW expr_spans_then.tab12 expr_spans_then.bits12 (fun HT_ HW_ => ?_)
                    generalize wr.drew = w20 at HO_5 HB GG19 HL286_0 HQ22 HR286_0 HR288_0 HX286_0 hf19_0 hx19_0 hx286_0 hx287_0 hx288_0 hx289_0 hHeld ⊢
                    refine pure_ (i := 0) (N := some 37) (v := ?_) (a' := ?_) #[true, false, false, false, false, false, false, false, false, false, false, false, false, false, false, false, false] rfl rfl (any_of HT_.out (by kernel_rfl)) (fun _ _ _ h => h) (Or.inl ⟨by rfl, ?_⟩) ?_ ?_
                    rotate_left
                    ·intro w'
                     go_simp
                     with_reducible rfl
                    rotate_left
                    ·simp only [Act.put, List.setIfInBounds_toArray, List.set_cons_zero, List.set_cons_succ, i64_w, i32_w]
                     rfl
                    refine pure_ (i := 1) (N := some 38) (v := ?_) (a' := ?_) #[true, true, false, false, false, false, false, false, false, false, false, false, false, false, false, false, false] rfl rfl (any_of HT_.out (by kernel_rfl)) (fun _ _ _ h => h) (Or.inl ⟨by rfl, ?_⟩) ?_ ?_
                    rotate_left
                    ·intro w'
                     go_simp
                     with_reducible rfl
                    rotate_left
                    ·simp only [Act.put, List.setIfInBounds_toArray, List.set_cons_zero, List.set_cons_succ, i64_w, i32_w]
                     rfl
                    refine pure_ (i := 2) (N := some 39) (v := ?_) (a' := ?_) #[true, true, true, false, false, false, false, false, false, false, false, false, false, false, false, false, false] rfl rfl (any_of HT_.out (by kernel_rfl)) (fun _ _ _ h => h) (Or.inl ⟨by rfl, ?_⟩) ?_ ?_
                    rotate_left
                    ·intro w'
                     go_simp
                     with_reducible rfl
                    rotate_left
                    ·simp only [Act.put, List.setIfInBounds_toArray, List.set_cons_zero, List.set_cons_succ, i64_w, i32_w]
                     rfl
                    refine pure_ (i := 4) (N := some 41) (v := ?_) (a' := ?_) #[true, true, true, false, true, false, false, false, false, false, false, false, false, false, false, false, false] rfl rfl (any_of HT_.out (by kernel_rfl)) (fun _ _ _ h => h) (Or.inl ⟨by rfl, ?_⟩) ?_ ?_
                    rotate_left
                    ·intro w'
                     go_simp
                     with_reducible rfl
                    rotate_left
                    ·simp only [Act.put, List.setIfInBounds_toArray, List.set_cons_zero, List.set_cons_succ, i64_w, i32_w]
                     rfl
                    refine pure_ (i := 7) (N := some 44) (v := ?_) (a' := ?_) #[true, true, true, false, true, false, false, true, false, false, false, false, false, false, false, false, false] rfl rfl (any_of HT_.out (by kernel_rfl)) (fun _ _ _ h => h) (Or.inl ⟨by rfl, ?_⟩) ?_ ?_
                    rotate_left
                    ·intro w'
                     go_simp
                     with_reducible rfl
                    rotate_left
                    ·simp only [Act.put, List.setIfInBounds_toArray, List.set_cons_zero, List.set_cons_succ, i64_w, i32_w]
                     rfl
                    refine pure_ (i := 8) (N := some 45) (v := ?_) (a' := ?_) #[true, true, true, false, true, false, false, true, true, false, false, false, false, false, false, false, false] rfl rfl (any_of HT_.out (by kernel_rfl)) (fun _ _ _ h => h) (Or.inl ⟨by rfl, ?_⟩) ?_ ?_
                    rotate_left
                    ·intro w'
                     go_simp
                     with_reducible rfl
                    rotate_left
                    ·simp only [Act.put, List.setIfInBounds_toArray, List.set_cons_zero, List.set_cons_succ, i64_w, i32_w]
                     rfl
                    refine pure_ (i := 9) (N := some 46) (v := ?_) (a' := ?_) #[true, true, true, false, true, false, false, true, true, true, false, false, false, false, false, false, false] rfl rfl (any_of HT_.out (by kernel_rfl)) (fun _ _ _ h => h) (Or.inl ⟨by rfl, ?_⟩) ?_ ?_
                    rotate_left
                    ·intro w'
                     go_simp
                     with_reducible rfl
                    rotate_left
                    ·simp only [Act.put, List.setIfInBounds_toArray, List.set_cons_zero, List.set_cons_succ, i64_w, i32_w]
                     rfl
                    refine pure_ (i := 11) (N := some 48) (v := ?_) (a' := ?_) #[true, true, true, false, true, false, false, true, true, true, false, true, false, false, false, false, false] rfl rfl (any_of HT_.out (by kernel_rfl)) (fun _ _ _ h => h) (Or.inl ⟨by rfl, ?_⟩) ?_ ?_
                    rotate_left
                    ·intro w'
                     go_simp
                     with_reducible rfl
                    rotate_left
                    ·simp only [Act.put, List.setIfInBounds_toArray, List.set_cons_zero, List.set_cons_succ, i64_w, i32_w]
                     rfl
                    refine take_ (i := 3) (N := some 40) (v := ?_) (a' := ?_) #[true, true, true, true, true, false, false, true, true, true, false, true, false, false, false, false, false] rfl rfl (take_ofW HT_.out HW_.out (by kernel_rfl)) (fun _ _ _ h => h) (Or.inl ⟨by rfl, ?_⟩) hHeld ?_ ?_
                    rotate_left
                    ·rintro w' ⟨s0, s1, s2, s3⟩
                     go_simp
                     with_reducible rfl
                    rotate_left
                    ·simp only [Act.put, List.setIfInBounds_toArray, List.set_cons_zero, List.set_cons_succ, i64_w, i32_w]
                     rfl
                    refine pure_ (i := 5) (N := some 42) (v := ?_) (a' := ?_) #[true, true, true, true, true, true, false, true, true, true, false, true, false, false, false, false, false] rfl rfl (any_of HT_.out (by kernel_rfl)) (fun _ _ _ h => h) (Or.inl ⟨by rfl, ?_⟩) ?_ ?_
                    rotate_left
                    ·intro w'
                     go_simp
                     with_reducible rfl
                    rotate_left
                    ·simp only [Act.put, List.setIfInBounds_toArray, List.set_cons_zero, List.set_cons_succ, i64_w, i32_w]
                     rfl
                    refine take_ (i := 6) (N := some 43) (v := ?_) (a' := ?_) #[true, true, true, true, true, true, true, true, true, true, false, true, false, false, false, false, false] rfl rfl (take_ofW HT_.out HW_.out (by kernel_rfl)) (fun _ _ _ h => h) (Or.inl ⟨by rfl, ?_⟩) hHeld ?_ ?_
                    rotate_left
                    ·rintro w' ⟨s0, s1, s2, s3⟩
                     go_simp
                     with_reducible rfl
                    rotate_left
                    ·simp only [Act.put, List.setIfInBounds_toArray, List.set_cons_zero, List.set_cons_succ, i64_w, i32_w]
                     rfl
                    refine take_ (i := 10) (N := some 47) (v := ?_) (a' := ?_) #[true, true, true, true, true, true, true, true, true, true, true, true, false, false, false, false, false] rfl rfl (take_ofW HT_.out HW_.out (by kernel_rfl)) (fun _ _ _ h => h) (Or.inl ⟨by rfl, ?_⟩) hHeld ?_ ?_
                    rotate_left
                    ·rintro w' ⟨s0, s1, s2, s3⟩
                     go_simp
                     with_reducible rfl
                    rotate_left
                    ·simp only [Act.put, List.setIfInBounds_toArray, List.set_cons_zero, List.set_cons_succ, i64_w, i32_w]
                     rfl
                    refine pure_ (i := 12) (N := some 49) (v := ?_) (a' := ?_) #[true, true, true, true, true, true, true, true, true, true, true, true, true, false, false, false, false] rfl rfl (any_of HT_.out (by kernel_rfl)) (fun _ _ _ h => h) (Or.inl ⟨by rfl, ?_⟩) ?_ ?_
                    rotate_left
                    ·intro w'
                     go_simp
                     with_reducible rfl
                    rotate_left
                    ·simp only [Act.put, List.setIfInBounds_toArray, List.set_cons_zero, List.set_cons_succ, i64_w, i32_w]
                     rfl
                    refine take_ (i := 13) (N := some 50) (v := ?_) (a' := ?_) #[true, true, true, true, true, true, true, true, true, true, true, true, true, true, false, false, false] rfl rfl (take_ofW HT_.out HW_.out (by kernel_rfl)) (fun _ _ _ h => h) (Or.inl ⟨by rfl, ?_⟩) hHeld ?_ ?_
                    rotate_left
                    ·rintro w' ⟨s0, s1, s2, s3⟩
                     go_simp
                     with_reducible rfl
                    rotate_left
                    ·simp only [Act.put, List.setIfInBounds_toArray, List.set_cons_zero, List.set_cons_succ, i64_w, i32_w]
                     rfl
                    refine pure_ (i := 14) (N := some 51) (v := ?_) (a' := ?_) #[true, true, true, true, true, true, true, true, true, true, true, true, true, true, true, false, false] rfl rfl (any_of HT_.out (by kernel_rfl)) (fun _ _ _ h => h) (Or.inl ⟨by rfl, ?_⟩) ?_ ?_
                    rotate_left
                    ·intro w'
                     go_simp
                     with_reducible rfl
                    rotate_left
                    ·simp only [Act.put, List.setIfInBounds_toArray, List.set_cons_zero, List.set_cons_succ, i64_w, i32_w]
                     rfl
                    refine pure_ (i := 15) (N := some 52) (v := ?_) (a' := ?_) #[true, true, true, true, true, true, true, true, true, true, true, true, true, true, true, true, false] rfl rfl (any_of HT_.out (by kernel_rfl)) (fun _ _ _ h => h) (Or.inl ⟨by rfl, ?_⟩) ?_ ?_
                    rotate_left
                    ·intro w'
                     go_simp
                     with_reducible rfl
                    rotate_left
                    ·simp only [Act.put, List.setIfInBounds_toArray, List.set_cons_zero, List.set_cons_succ, i64_w, i32_w]
                     rfl
                    refine last_ (i := 16) (N := none) #[true, true, true, true, true, true, true, true, true, true, true, true, true, true, true, true, true] rfl rfl (one_of HT_.out (by kernel_rfl)) (by decide) (fun K hK => ?_)
                    refine skip_ (w1 := ?_) (by rfl) rfl ?_ ?_
                    rotate_left
                    ·go_simp
                     rfl
                    refine hK.out _ _ ?_
                    clear hK K
                    refine done_ (done_of HT_.out (by kernel_rfl)) ?_
                    try go_wp2
                    (first | go_roundg k3 | ((simp only [add_plain] at *); go_roundg k3))
                    case measure => have := HK1.out; have := HK2.out; have := HK3.out; omega
                    case rel => exact ⟨(y292), (wrap64 (x34_3 + 1)), (by first | rfl | (simp; done) | (simp [*]; done)), H', ⟨by have := HK1.out; have := HK2.out; have := HK3.out; omega⟩, ⟨by (with_reducible repeat (first | apply Kd.S_alloc | apply Kd.S_drewN | apply Kd.S_drew)); exact HQ22.out⟩, ⟨by repeat (first | (with_reducible first | exact HB.out | apply below_alloc | apply pw_below_drewN | apply below_drew1 | refine below_set ?_ GB19.out) | exact HB.out)⟩⟩
                   ·rw [if_neg c18] at H
                    exact absurd H (by simp)
                  ·rw [if_neg c17] at H
                   exact absurd H (by simp)
                 ·rw [if_neg c16] at H
                  exact absurd H (by simp)
                ·rw [if_neg c15] at H
                 exact absurd H (by simp)
               ·rw [if_neg c14] at H
                exact absurd H (by simp)
              ·rw [if_neg c13] at H
               exact absurd H (by simp)
             ·rw [if_neg c12] at H
              exact absurd H (by simp)
            ·rw [if_neg c11] at H
             have c11b0 : decide (x34_3 < ((rd_L4 l1 x7_2).length : Int)) = false := decide_eq_false c11
             clear c11
             have H' := Aside0.mk H
             clear H
             go_wp2
             (first | go_roundg k3 | ((simp only [add_plain] at *); go_roundg k3))
             case measure => have := HK1.out; have := HK2.out; have := HK3.out; omega
             case rel => exact ⟨(x5_3), (wrap64 (x7_2 + 1)), (by first | rfl | (simp; done) | (simp [*]; done)), H', ⟨by have := HK1.out; have := HK2.out; have := HK3.out; omega⟩, ⟨by (with_reducible repeat (first | apply Kd.S_alloc | apply Kd.S_drewN | apply Kd.S_drew)); exact HO_5.out⟩, ⟨bB⟩⟩
         ·rw [if_neg c10] at H
          exact absurd H (by simp)
        ·rw [if_neg c9] at H
         exact absurd H (by simp)
       ·replace c8 := Bool.eq_false_iff.mpr c8
        subst c8
        have H1 : (expr_spans_then.l1 k2 l0 l1 x5_2 x15_1 (wrap64 (x7_2 + 1)) (l0.length : Int) x15_1) = some r := by rw [if_neg (show ¬ (false = true) by decide)] at H; exact H
        clear H
        have H := H1
        clear H1
        have H' := Aside0.mk H
        clear H
        go_wp2_with (first | ((with_reducible refine gate_callee (f := 61) rfl ?_); refine goesL_ (some 28) rfl rfl Try.func61 (by kernel_rfl) rfl #[.slice A0 l0.length c0, .int .i64 x15_1, .int .i64 x7_2] rfl (by (try simp only [List.map_toArray, List.map_cons, List.map_nil]); first | done | rfl | (simp only [List.length_drop, List.length_take]; rfl) | (simp only [Int.ofNat_lt, Int.ofNat_le]; rfl)) ?_; (with_reducible refine (expr_spans_has.calls _ _ l0 x15_1 x7_2 false _ ?side1 ?side2 A7.out).mono ?_); (case side1 => repeat (first | exact (Kd.C_below HR0.out HB.out) | (with_reducible refine Kd.C_alloc ?_ _) | (with_reducible refine Kd.C_drewN ?_ _) | (with_reducible refine Kd.C_drew ?_))); (case side2 => exact HC0.out); rintro e w' ⟨rfl, ⟨nd, rfl⟩⟩; refine ⟨_, rfl, ?_⟩))
        (first | go_roundg k2 | ((simp only [add_plain] at *); go_roundg k2))
        case measure => have := HK1.out; have := HK2.out; omega
        case rel => exact ⟨(x5_2), (wrap64 (x7_2 + 1)), (by first | rfl | (simp; done) | (simp [*]; done)), H', ⟨by have := HK1.out; have := HK2.out; omega⟩, ⟨by (with_reducible repeat (first | apply Kd.S_alloc | apply Kd.S_drewN | apply Kd.S_drew)); exact HO_5.out⟩, ⟨bB⟩⟩
      ·rw [if_neg c6] at H
       have c6b0 : decide (x7_2 < (l0.length : Int)) = false := decide_eq_false c6
       clear c6
       have H' := Aside0.mk H
       clear H
       go_wp2
       (first | go_roundg k2 | ((simp only [add_plain] at *); go_roundg k2))
       case measure => have := HK1.out; have := HK2.out; omega
       case rel => exact ⟨(x5_2), (wrap64 (x15_1 + 1)), (by first | rfl | (simp; done) | (simp [*]; done)), H', ⟨by have := HK1.out; have := HK2.out; omega⟩, ⟨by (with_reducible repeat (first | apply Kd.S_alloc | apply Kd.S_drewN | apply Kd.S_drew)); exact HO_5.out⟩, ⟨bB⟩⟩
   ·rw [if_neg c5] at H
    have c5b0 : decide (x15_1 < (l0.length : Int)) = false := decide_eq_false c5
    clear c5
    obtain rfl := Option.some.inj H
    go_wp2
    go_ret
    exact ⟨_, by first | rfl | (simp [errW_none, errW_some] <;> rfl) | (simp [*, errW_none, errW_some] <;> rfl), by (with_reducible repeat (first | apply Kd.S_alloc | apply Kd.S_drewN | apply Kd.S_drew)); exact HO_5.out, bB⟩
end Go.Proofs.Ytjofkebiacaciaa.PAll
end
