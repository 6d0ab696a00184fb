-- Laid by a program of this session.
import Derived.Test.YtndpeoladndepaaDoorPRelationCondensesx0
import Derived.Test.YtndpeoladndepaaDoorPRelationCondensesx1
import Derived.Test.YtndpeoladndepaaDoorPRelationCondensesx2
import Derived.Test.YtndpeoladndepaaDoorPRelationCondensesx4
import Derived.Test.YtndpeoladndepaaDoorPRelationCondensesxExt
namespace Go.Proofs.YtndpeoladndepaaDoor.PRelationCondenses
open Go.RowKit Go.Proofs.YtndpeoladndepaaDoorW.PrintWords Go.Proofs.YtndpeoladndepaaDoorW.PrintLast Go.Proofs.YtndpeoladndepaaDoorW.PrintMore
attribute [local go_sem] max2_int min2_int max_two min_two max_three min_three max_four min_four   -- for this text's walks alone
set_option linter.unusedVariables false
set_option linter.unusedSimpArgs false

/-! ### relation_Order: function 34 -/
mutual
def relation_Order.l0 : Nat → List Int → List Int → Int → List Int → Int → Int → Option (List Int)
  | 0, _, _, _, _, _, _ => none
  | k + 1, x3, x4, x5, x18, x19, x20 => if x20 < x19 then (if 0 ≤ x20 then (if x20 < (x18.length : Int) then (relation_Order.l0 k x3 x4 (mx x5 (wrap64 ((rd x18 x20) + 1))) x18 x19 (wrap64 (x20 + 1))) else (none)) else (none)) else (if 0 ≤ x5 then (if (x5 : Int).toNat ≤ 35184372088832 then (relation_Order.l1 k x3 x4 (List.replicate (x5 : Int).toNat 0) (x3.length : Int) 0) else (none)) else (none))
def relation_Order.l1 : Nat → List Int → List Int → List Int → Int → Int → Option (List Int)
  | 0, _, _, _, _, _ => none
  | k + 1, x3, x4, x8, x32, x33 => if x33 < x32 then (if 0 ≤ x33 then (if x33 < (x3.length : Int) then (relation_Order.l2 k x3 x4 x8 x33 (rd x3 x33) x32 x33) else (none)) else (none)) else (some x8)
def relation_Order.l2 : Nat → List Int → List Int → List Int → Int → Int → Int → Int → Option (List Int)
  | 0, _, _, _, _, _, _, _ => none
  | k + 1, x3, x4, x8, x9, x10, x32, x33 => if x10 = 0 then (relation_Order.l1 k x3 x4 x8 x32 (wrap64 (x33 + 1))) else (if 0 ≤ x9 then (if x9 < (x4.length : Int) then (if 0 ≤ (rd x4 x9) then (if (rd x4 x9) < (x8.length : Int) then ((bits_TrailingZeros64.f x10).bind fun t175 => (if 0 ≤ t175 then (if t175 < (x4.length : Int) then (if 0 ≤ (IntKind.u64.wrap (rd x4 t175)) then (relation_Order.l2 k x3 x4 (x8.set ((rd x4 x9) : Int).toNat (Go.bits .or .u64 (rd x8 (rd x4 x9)) (shl .u64 1 (IntKind.u64.wrap (rd x4 t175))))) x9 (Go.bits .and .u64 x10 (IntKind.u64.wrap (x10 - 1))) x32 x33) else (none)) else (none)) else (none))) else (none)) else (none)) else (none)) else (none))
end
def relation_Order.f (k : Nat) (l0 : List Int) : Option (List Int) := (relation_Valid.f k l0).bind fun t161 => (if t161 = true then ((relation_Closure.f k l0).bind fun t162 => ((relation_Components.f k l0).bind fun t165 => (relation_Order.l0 k t162 t165 0 t165 (t165.length : Int) 0))) else (some ([] : List Int)))
theorem relation_Order.mono_l : ∀ k, (∀ y0 y1 y2 y3 y4 y5, LeO (relation_Order.l0 k y0 y1 y2 y3 y4 y5) (relation_Order.l0 (k + 1) y0 y1 y2 y3 y4 y5)) ∧ (∀ y0 y1 y2 y3 y4, LeO (relation_Order.l1 k y0 y1 y2 y3 y4) (relation_Order.l1 (k + 1) y0 y1 y2 y3 y4)) ∧ (∀ y0 y1 y2 y3 y4 y5 y6, LeO (relation_Order.l2 k y0 y1 y2 y3 y4 y5 y6) (relation_Order.l2 (k + 1) y0 y1 y2 y3 y4 y5 y6))
  | 0 => ⟨fun _ _ _ _ _ _ r h => by simp [relation_Order.l0] at h, fun _ _ _ _ _ r h => by simp [relation_Order.l1] at h, fun _ _ _ _ _ _ _ r h => by simp [relation_Order.l2] at h⟩
  | k + 1 => by
    obtain ⟨ih0, ih1, ih2⟩ := relation_Order.mono_l k
    refine ⟨?_, ?_, ?_⟩
    · intro y0 y1 y2 y3 y4 y5
      unfold relation_Order.l0
      repeat' first
      | (with_reducible exact ih0 _ _ _ _ _ _)
      | (with_reducible exact ih1 _ _ _ _ _)
      | (with_reducible exact ih2 _ _ _ _ _ _ _)
      | (with_reducible exact relation_Closure.mono _ _)
      | (with_reducible exact relation_Components.mono _ _)
      | (with_reducible exact relation_Valid.mono _ _)
      | (with_reducible exact LeO.refl _)
      | (with_reducible exact LeO.none _)
      | (with_reducible refine LeO.ite ?_ ?_)
      | (with_reducible refine LeO.bind ?_ (fun _ => ?_))
      | exact ih0 _ _ _ _ _ _
      | exact ih1 _ _ _ _ _
      | exact ih2 _ _ _ _ _ _ _
      | exact relation_Closure.mono _ _
      | exact relation_Components.mono _ _
      | exact relation_Valid.mono _ _
      | exact LeO.none _
      | refine LeO.ite ?_ ?_
      | refine LeO.bind ?_ (fun _ => ?_)
    · intro y0 y1 y2 y3 y4
      unfold relation_Order.l1
      repeat' first
      | (with_reducible exact ih0 _ _ _ _ _ _)
      | (with_reducible exact ih1 _ _ _ _ _)
      | (with_reducible exact ih2 _ _ _ _ _ _ _)
      | (with_reducible exact relation_Closure.mono _ _)
      | (with_reducible exact relation_Components.mono _ _)
      | (with_reducible exact relation_Valid.mono _ _)
      | (with_reducible exact LeO.refl _)
      | (with_reducible exact LeO.none _)
      | (with_reducible refine LeO.ite ?_ ?_)
      | (with_reducible refine LeO.bind ?_ (fun _ => ?_))
      | exact ih0 _ _ _ _ _ _
      | exact ih1 _ _ _ _ _
      | exact ih2 _ _ _ _ _ _ _
      | exact relation_Closure.mono _ _
      | exact relation_Components.mono _ _
      | exact relation_Valid.mono _ _
      | exact LeO.none _
      | refine LeO.ite ?_ ?_
      | refine LeO.bind ?_ (fun _ => ?_)
    · intro y0 y1 y2 y3 y4 y5 y6
      unfold relation_Order.l2
      repeat' first
      | (with_reducible exact ih0 _ _ _ _ _ _)
      | (with_reducible exact ih1 _ _ _ _ _)
      | (with_reducible exact ih2 _ _ _ _ _ _ _)
      | (with_reducible exact relation_Closure.mono _ _)
      | (with_reducible exact relation_Components.mono _ _)
      | (with_reducible exact relation_Valid.mono _ _)
      | (with_reducible exact LeO.refl _)
      | (with_reducible exact LeO.none _)
      | (with_reducible refine LeO.ite ?_ ?_)
      | (with_reducible refine LeO.bind ?_ (fun _ => ?_))
      | exact ih0 _ _ _ _ _ _
      | exact ih1 _ _ _ _ _
      | exact ih2 _ _ _ _ _ _ _
      | exact relation_Closure.mono _ _
      | exact relation_Components.mono _ _
      | exact relation_Valid.mono _ _
      | exact LeO.none _
      | refine LeO.ite ?_ ?_
      | refine LeO.bind ?_ (fun _ => ?_)
theorem relation_Order.mono : ∀ a0 k, LeO (relation_Order.f k a0) (relation_Order.f (k + 1) a0) := by
  intro a0 k
  obtain ⟨ih0, ih1, ih2⟩ := relation_Order.mono_l k
  unfold relation_Order.f
  repeat' first
      | (with_reducible exact ih0 _ _ _ _ _ _)
      | (with_reducible exact ih1 _ _ _ _ _)
      | (with_reducible exact ih2 _ _ _ _ _ _ _)
      | (with_reducible exact relation_Closure.mono _ _)
      | (with_reducible exact relation_Components.mono _ _)
      | (with_reducible exact relation_Valid.mono _ _)
      | (with_reducible exact LeO.refl _)
      | (with_reducible exact LeO.none _)
      | (with_reducible refine LeO.ite ?_ ?_)
      | (with_reducible refine LeO.bind ?_ (fun _ => ?_))
      | exact ih0 _ _ _ _ _ _
      | exact ih1 _ _ _ _ _
      | exact ih2 _ _ _ _ _ _ _
      | exact relation_Closure.mono _ _
      | exact relation_Components.mono _ _
      | exact relation_Valid.mono _ _
      | exact LeO.none _
      | refine LeO.ite ?_ ?_
      | refine LeO.bind ?_ (fun _ => ?_)
def relation_Order.T17 : Bool × List (List Nat × List Nat) := (true, [([], []), ([], []), ([], []), ([1, 2], [1, 2]), ([3], [3]), ([0, 4], [0, 4]), ([5], [5]), ([], []), ([], []), ([8], [8]), ([7, 9], [7, 9]), ([10], [10]), ([11], [11]), ([12], [12]), ([6, 13], [6, 13]), ([0, 4, 0, 1, 2, 3, 4, 5, 6, 7, 8, 9, 10, 11, 12, 13, 14], [0, 4]), ([15, 14, 9, 0, 1, 2, 3, 4, 5, 6, 7, 8, 9, 10, 11, 12, 13, 14], [14, 15])])
def relation_Order.B17 : List Nat := [0, 0, 0, 6, 14, 31, 63, 0, 0, 256, 896, 1920, 3968, 8064, 16383, 32767, 65535]
theorem relation_Order.tab17 : rtab .any (opsOf Tryd.f34 17) = relation_Order.T17 := by kernel_rfl
theorem relation_Order.bits17 : waitsOk relation_Order.T17.2 relation_Order.B17 = true := by kernel_rfl
set_option maxHeartbeats 8000000 in
set_option maxRecDepth 100000 in
theorem relation_Order.calls (k : Nat) (A0 : Option Addr) (c0 : Nat) (l0 : List Int) (r : List Int) (w : World) (hr0 : Kd.C (Kd.int .u64) w A0 l0.length l0) (hc0 : l0.length ≤ c0) (hG : Glob w) (h : relation_Order.f k l0 = some r) :
    Calls Tryd.prog 34 #[.slice A0 l0.length c0] w fun e w' => ∃ v0_ : Value, e = .returned (v0_) ∧ Kd.R (Kd.int .u64) 26 w' w.heap.size (fun _ => True) v0_ r ∧ Below w.heap.size w w' := by
  have HG := Aside0.mk hG
  clear hG
  have HR0 := Aside0.mk hr0
  have HC0 := Aside0.mk hc0
  clear hr0 hc0
  have HB := Aside0.mk (Below.refl w.heap.size w)
  have H : ((relation_Valid.f k l0).bind fun t161 => (if t161 = true then ((relation_Closure.f k l0).bind fun t162 => ((relation_Components.f k l0).bind fun t165 => (relation_Order.l0 k t162 t165 0 t165 (t165.length : Int) 0))) else (some ([] : List Int)))) = some r := h
  clear h
  replace H := Option.bind_eq_some_iff.mp H
  obtain ⟨t161, A20, H⟩ := H
  replace H : (if t161 = true then ((relation_Closure.f k l0).bind fun t162 => ((relation_Components.f k l0).bind fun t165 => (relation_Order.l0 k t162 t165 0 t165 (t165.length : Int) 0))) else (some ([] : List Int))) = some r := H
  have A2 := Aside0.mk A20
  clear A20
  by_cases c3 : t161 = true
  · subst c3
    have H1 : ((relation_Closure.f k l0).bind fun t162 => ((relation_Components.f k l0).bind fun t165 => (relation_Order.l0 k t162 t165 0 t165 (t165.length : Int) 0))) = some r := by rw [if_pos rfl] at H; exact H
    clear H
    have H := H1
    clear H1
    replace H := Option.bind_eq_some_iff.mp H
    obtain ⟨t162, A40, H⟩ := H
    replace H : ((relation_Components.f k l0).bind fun t165 => (relation_Order.l0 k t162 t165 0 t165 (t165.length : Int) 0)) = some r := H
    have A4 := Aside0.mk A40
    clear A40
    replace H := Option.bind_eq_some_iff.mp H
    obtain ⟨t165, A50, H⟩ := H
    replace H : (relation_Order.l0 k t162 t165 0 t165 (t165.length : Int) 0) = some r := H
    have A5 := Aside0.mk A50
    clear A50
    have H' := Aside0.mk H
    clear H
    go_enter Tryd.func34, Tryd.ntmps34
    go_wp2_with (first | ((with_reducible refine gate_callee (f := 37) rfl ?_); refine goesL_ (some 12) rfl rfl Tryd.func37 (by kernel_rfl) rfl #[.slice A0 l0.length c0] rfl (by (try simp only [List.map_toArray, List.map_cons, List.map_nil]); first | done | rfl | (simp only [List.length_drop, List.length_take]; rfl)) ?_; (with_reducible refine (relation_Valid.calls k _ _ l0 true _ ?side1 ?side2 A2.out).mono ?_); (case side1 => repeat (first | exact HR0.out | (with_reducible refine Kd.C_alloc ?_ _) | (with_reducible refine Kd.C_drewN ?_ _) | (with_reducible refine Kd.C_drew ?_))); (case side2 => exact HC0.out); rintro e w' ⟨rfl, ⟨nd, rfl⟩⟩; refine ⟨_, rfl, ?_⟩) | ((with_reducible refine gate_callee (f := 29) rfl ?_); (fail_if_success (have chk_ := HO164)); refine goesL_ (some 15) rfl rfl Tryd.func29 (by kernel_rfl) rfl #[.slice A0 l0.length c0] rfl (by (try simp only [List.map_toArray, List.map_cons, List.map_nil]); first | done | rfl | (simp only [List.length_drop, List.length_take]; rfl)) ?_; (with_reducible refine (relation_Closure.calls k _ _ l0 t162 _ ?side1 ?side2 A4.out).mono ?_); (case side1 => repeat (first | exact HR0.out | (with_reducible refine Kd.C_alloc ?_ _) | (with_reducible refine Kd.C_drewN ?_ _) | (with_reducible refine Kd.C_drew ?_))); (case side2 => exact HC0.out); rintro e w6 ⟨v163, rfl, ho0, hb⟩; refine ⟨_, rfl, ?_⟩; have n0_ := Aside0.mk (Kd.R_lower ho0 (below_size (by repeat (first | (with_reducible first | exact HB.out | apply below_alloc | apply pw_below_drewN | apply below_drew1) | exact HB.out)))); have n1_ := Aside0.mk (below_step (by repeat (first | (with_reducible first | exact HB.out | apply below_alloc | apply pw_below_drewN | apply below_drew1) | exact HB.out)) hb); clear HB; have HO164 := n0_; have HB := n1_; clear n0_ n1_; (try clear hb); (try clear hb2); (try clear hk); (try clear hi); (try clear ho0)) | ((with_reducible refine gate_callee (f := 33) rfl ?_); (fail_if_success (have chk_ := HO167)); refine goesL_ (some 17) rfl rfl Tryd.func33 (by kernel_rfl) rfl #[.slice A0 l0.length c0] rfl (by (try simp only [List.map_toArray, List.map_cons, List.map_nil]); first | done | rfl | (simp only [List.length_drop, List.length_take]; rfl)) ?_; (with_reducible refine (relation_Components.calls k _ _ l0 t165 _ ?side1 ?side2 A5.out).mono ?_); (case side1 => repeat (first | exact (Kd.C_below HR0.out HB.out) | (with_reducible refine Kd.C_alloc ?_ _) | (with_reducible refine Kd.C_drewN ?_ _) | (with_reducible refine Kd.C_drew ?_))); (case side2 => exact HC0.out); rintro e w7 ⟨v166, rfl, ho0, hb⟩; refine ⟨_, rfl, ?_⟩; have n0_ := Aside0.mk (Kd.R_below (by (with_reducible repeat (first | apply Kd.R_alloc | apply Kd.R_drewN | apply Kd.R_drew)); exact HO164.out) hb); have n1_ := Aside0.mk (Kd.R_lower ho0 (below_size (by repeat (first | (with_reducible first | exact HB.out | apply below_alloc | apply pw_below_drewN | apply below_drew1) | exact HB.out)))); have n2_ := Aside0.mk (below_step (by repeat (first | (with_reducible first | exact HB.out | apply below_alloc | apply pw_below_drewN | apply below_drew1) | exact HB.out)) hb); clear HO164; clear HB; have HO164 := n0_; have HO167 := n1_; have HB := n2_; clear n0_ n1_ n2_; (try clear hb); (try clear hb2); (try clear hk); (try clear hi); (try clear ho0); obtain ⟨Ao8, co8, eo8⟩ := Kd.R_slice HO167.out; subst eo8))
    go_loopg [5, 20] k (fun kq v5 v20 w' => ∃ (x5_1 : Int) (x20_1 : Int), v5 = .int .i64 x5_1 ∧ v20 = .int .i64 x20_1 ∧ Aside0 (relation_Order.l0 kq t162 t165 x5_1 t165 (t165.length : Int) x20_1 = some r) ∧ Aside0 (kq ≤ k) ∧ Aside0 (Kd.R (Kd.int .u64) 26 w' w.heap.size (fun _ => True) v163 t162) ∧ Aside0 (Kd.R (Kd.int .i64) 3 w' w.heap.size (fun _ => True) (.slice Ao8 t165.length co8) t165) ∧ Aside0 (Kd.R (Kd.int .i64) 3 w' w.heap.size (fun _ => True) (.slice Ao8 t165.length co8) t165) ∧ Aside0 (Below w.heap.size w w'))
    case atStart => exact ⟨(0), (0), (by first | rfl | (simp; done) | (simp [*]; done)), (by first | rfl | (simp; done) | (simp [*]; done)), H', ⟨Nat.le_refl _⟩, ⟨by (with_reducible repeat (first | apply Kd.R_alloc | apply Kd.R_drewN | apply Kd.R_drew)); exact HO164.out⟩, ⟨by (with_reducible repeat (first | apply Kd.R_alloc | apply Kd.R_drewN | apply Kd.R_drew)); exact HO167.out⟩, ⟨by (with_reducible repeat (first | apply Kd.R_alloc | apply Kd.R_drewN | apply Kd.R_drew)); exact HO167.out⟩, ⟨by repeat (first | (with_reducible first | exact HB.out | apply below_alloc | apply pw_below_drewN | apply below_drew1) | exact HB.out)⟩⟩
    case round =>
      clear H'
      try clear c2
      try clear p2
      try clear c3
      obtain ⟨x5_1, x20_1, rfl, rfl, HA, HK1, HO_3, HO_4, HO_18, HB⟩ := hrel
      cases gk with
      | zero => exact absurd HA.out (by simp [relation_Order.l0])
      | succ k1 =>
        have H := HA.out
        clear HA
        simp only [relation_Order.l0] at H
        by_cases c9 : x20_1 < (t165.length : Int)
        · rw [if_pos c9] at H
          have c9b0 : decide (x20_1 < (t165.length : Int)) = true := decide_eq_true c9
          clear c9
          by_cases c10 : 0 ≤ x20_1
          · rw [if_pos c10] at H
            have c10b0 : decide (0 ≤ x20_1) = true := decide_eq_true c10
            clear c10
            by_cases c11 : x20_1 < (t165.length : Int)
            · rw [if_pos c11] at H
              have c11b0 : decide (x20_1 < (t165.length : Int)) = true := decide_eq_true c11
              clear c11
              obtain ⟨ji12, hji12⟩ : ∃ j_ : Int, (mx x5_1 (wrap64 ((rd t165 x20_1) + 1))) = j_ := ⟨_, rfl⟩
              replace H : (relation_Order.l0 k1 t162 t165 ji12 t165 (t165.length : Int) (wrap64 (x20_1 + 1))) = some r := by first | (rw [hji12] at H; exact H) | (simp only [hji12] at H ⊢; exact H)
              have hji12_ : (if x5_1 < (wrap64 ((rd t165 x20_1) + 1)) then (wrap64 ((rd t165 x20_1) + 1)) else x5_1) = ji12 := hji12
              have H' := Aside0.mk H
              clear H
              have p168 : 0 ≤ (x20_1 : Int) := of_decide_eq_true (by first | (with_reducible assumption) | assumption)
              have q168 : x20_1 < (t165.length : Int) := of_decide_eq_true (by first | (with_reducible assumption) | assumption)
              obtain ⟨ad168, e168, hx168_0⟩ := Kd.at_int (Kd.R_reads' HO_18.out).2.2 x20_1 p168 q168
              cases e168
              replace p168 := eq_true p168
              replace q168 := eq_true q168
              go_wp2
              (first | go_roundg k1 | ((simp only [add_plain] at *); go_roundg k1))
              case measure => have := HK1.out; omega
              case rel => exact ⟨(ji12), (wrap64 (x20_1 + 1)), (by first | rfl | (simp; done) | (simp only [← hji12] <;> (first | rfl | simp)) | (simp [*]; done)), (by first | rfl | (simp; done) | (simp [*]; done)), H', ⟨by have := HK1.out; omega⟩, ⟨by (with_reducible repeat (first | apply Kd.R_alloc | apply Kd.R_drewN | apply Kd.R_drew)); exact HO_3.out⟩, ⟨by (with_reducible repeat (first | apply Kd.R_alloc | apply Kd.R_drewN | apply Kd.R_drew)); exact HO_4.out⟩, ⟨by (with_reducible repeat (first | apply Kd.R_alloc | apply Kd.R_drewN | apply Kd.R_drew)); exact HO_18.out⟩, ⟨by repeat (first | (with_reducible first | exact HB.out | apply below_alloc | apply pw_below_drewN | apply below_drew1) | exact HB.out)⟩⟩
            · rw [if_neg c11] at H
              exact absurd H (by simp)
          · rw [if_neg c10] at H
            exact absurd H (by simp)
        · rw [if_neg c9] at H
          have c9b0 : decide (x20_1 < (t165.length : Int)) = false := decide_eq_false c9
          clear c9
          by_cases c13 : 0 ≤ x5_1
          · rw [if_pos c13] at H
            have c13b0 := eq_true c13
            have c13b1 : decide (0 ≤ x5_1) = true := decide_eq_true c13
            clear c13
            by_cases c14 : (x5_1 : Int).toNat ≤ 35184372088832
            · rw [if_pos c14] at H
              have c14b0 := eq_true c14
              have c14b1 : decide ((x5_1 : Int).toNat ≤ 35184372088832) = true := decide_eq_true c14
              clear c14
              obtain ⟨y169, hy169⟩ : ∃ y_ : List Int, y_ = (List.replicate (x5_1 : Int).toNat 0) := ⟨_, rfl⟩
              replace H : (relation_Order.l1 k1 t162 t165 y169 (t162.length : Int) 0) = some r := by first | (rw [hy169]; with_reducible exact H) | (have H2_ := (Option.bind_some _ _).symm.trans H; rw [hy169]; with_reducible exact H2_) | (have H2_ := (Option.bind_some _ _).symm.trans H; with_reducible exact H2_) | with_reducible exact H | (rw [hy169]; exact H) | exact H
              have Ny169 := Aside0.mk hy169
              clear hy169
              have H' := Aside0.mk H
              clear H
              go_wp2_with (first | ((with_reducible refine gate_dst (N := 30) rfl ?_); refine Kd.R_make (Kd.int .u64) _ 26 rfl (N := 30) rfl 22 _ _ rfl x5_1 rfl rfl Tryd.underlying22 (.int .u64 0) 8 info26 rfl (by decide) (by omega) 0 (ok := fun _ => True) (okp := fun _ => True) rfl (fun _ hk => hk) trivial (of_decide_eq_true (by first | (with_reducible assumption) | assumption)) (Nat.le_trans (Nat.mul_le_mul_right _ (of_decide_eq_true (by first | (with_reducible assumption) | assumption) : x5_1.toNat ≤ 35184372088832)) (by omega)) (Below.refl _ _) (Nat.le_refl _) ?_; intro v170 w15 ho16 hb hg_ hnew_; clear hg_ hnew_; (first | rw [← Ny169.out] at ho16 | (simp only [Int.reduceToNat] at ho16; rw [← Ny169.out] at ho16)); have n0_ := Aside0.mk (Kd.R_elder' (by (with_reducible repeat (first | apply Kd.R_alloc | apply Kd.R_drewN | apply Kd.R_drew)); exact HO_3.out) (Kd.R_base ho16) hb); have n1_ := Aside0.mk (Kd.R_below (by (with_reducible repeat (first | apply Kd.R_alloc | apply Kd.R_drewN | apply Kd.R_drew)); exact HO_4.out) hb); have n2_ := Aside0.mk (Kd.R_below (by (with_reducible repeat (first | apply Kd.R_alloc | apply Kd.R_drewN | apply Kd.R_drew)); exact HO_18.out) hb); have n3_ := Aside0.mk (Kd.R_lower (Kd.R_new' ho16 (Kd.R_lt (by (with_reducible repeat (first | apply Kd.R_alloc | apply Kd.R_drewN | apply Kd.R_drew)); exact HO_3.out))) (below_size (by repeat (first | (with_reducible first | exact HB.out | apply below_alloc | apply pw_below_drewN | apply below_drew1) | exact HB.out)))); have n4_ := Aside0.mk (below_step (by repeat (first | (with_reducible first | exact HB.out | apply below_alloc | apply pw_below_drewN | apply below_drew1) | exact HB.out)) hb); clear HO_3; clear HO_4; clear HO_18; clear HB; have HO_3 := n0_; have HO_4 := n1_; have HO_18 := n2_; have HO171 := n3_; have HB := n4_; clear n0_ n1_ n2_ n3_ n4_; clear hb ho16; obtain ⟨Ao17, co17, eo17⟩ := Kd.R_slice HO_3.out; subst eo17))
              go_loopg [33] k1 (fun kq v33 w' => ∃ (x8_2 : List Int) (x33_2 : Int), v33 = .int .i64 x33_2 ∧ Aside0 (relation_Order.l1 kq t162 t165 x8_2 (t162.length : Int) x33_2 = some r) ∧ Aside0 (kq ≤ k1) ∧ Aside0 (Kd.R (Kd.int .u64) 26 w' w.heap.size (fun k_ => some k_ ≠ (v170 : Value).ownBlock) (.slice Ao17 t162.length co17) t162) ∧ Aside0 (Kd.R (Kd.int .i64) 3 w' w.heap.size (fun _ => True) (.slice Ao8 t165.length co8) t165) ∧ Aside0 (Kd.R (Kd.int .u64) 26 w' w.heap.size (fun k_ => some k_ ≠ ((.slice Ao17 t162.length co17) : Value).ownBlock) v170 x8_2) ∧ Aside0 (Below w.heap.size w w'))
              case atStart => exact ⟨(y169), (0), (by first | rfl | (simp; done) | (simp [*]; done)), H', ⟨Nat.le_refl _⟩, ⟨by (with_reducible repeat (first | apply Kd.R_alloc | apply Kd.R_drewN | apply Kd.R_drew)); exact Kd.R_mono HO_3.out (fun _ hk => hk.2)⟩, ⟨by (with_reducible repeat (first | apply Kd.R_alloc | apply Kd.R_drewN | apply Kd.R_drew)); exact HO_4.out⟩, ⟨by (with_reducible repeat (first | apply Kd.R_alloc | apply Kd.R_drewN | apply Kd.R_drew)); exact Kd.R_mono HO171.out (fun _ hk => hk.2)⟩, ⟨by repeat (first | (with_reducible first | exact HB.out | apply below_alloc | apply pw_below_drewN | apply below_drew1) | exact HB.out)⟩⟩
              case round =>
                clear H'
                try clear c1
                try clear p1
                try clear q1
                try clear hx1
                try clear c2
                try clear p2
                try clear c3
                try clear p6
                try clear c9
                try clear c9b0
                try clear c10
                try clear c10b0
                try clear c11
                try clear c11b0
                try clear c13
                try clear c13b0
                try clear c13b1
                try clear c14
                try clear c14b0
                try clear c14b1
                try clear p16
                try clear q16
                try clear hx16
                try clear hx168_0
                try clear p168
                try clear p2
                try clear q168
                obtain ⟨x8_2, x33_2, rfl, HA, HK2, HO_3, HO_4, HO_8, HB⟩ := hrel
                cases gk with
                | zero => exact absurd HA.out (by simp [relation_Order.l1])
                | succ k2 =>
                  have H := HA.out
                  clear HA
                  simp only [relation_Order.l1] at H
                  by_cases c18 : x33_2 < (t162.length : Int)
                  · rw [if_pos c18] at H
                    have c18b0 : decide (x33_2 < (t162.length : Int)) = true := decide_eq_true c18
                    clear c18
                    by_cases c19 : 0 ≤ x33_2
                    · rw [if_pos c19] at H
                      have c19b0 : decide (0 ≤ x33_2) = true := decide_eq_true c19
                      clear c19
                      by_cases c20 : x33_2 < (t162.length : Int)
                      · rw [if_pos c20] at H
                        have c20b0 : decide (x33_2 < (t162.length : Int)) = true := decide_eq_true c20
                        clear c20
                        have H' := Aside0.mk H
                        clear H
                        have p172 : 0 ≤ (x33_2 : Int) := of_decide_eq_true (by first | (with_reducible assumption) | assumption)
                        have q172 : x33_2 < (t162.length : Int) := of_decide_eq_true (by first | (with_reducible assumption) | assumption)
                        obtain ⟨ad172, e172, hx172_0⟩ := Kd.at_int (Kd.R_reads' HO_3.out).2.2 x33_2 p172 q172
                        cases e172
                        replace p172 := eq_true p172
                        replace q172 := eq_true q172
                        go_wp2
                        go_loopg [10] k2 (fun kq v10 w' => ∃ (x8_3 : List Int) (x10_3 : Int), v10 = .int .u64 x10_3 ∧ Aside0 (relation_Order.l2 kq t162 t165 x8_3 x33_2 x10_3 (t162.length : Int) x33_2 = some r) ∧ Aside0 (kq ≤ k2) ∧ Aside0 (Kd.R (Kd.int .u64) 26 w' w.heap.size (fun k_ => some k_ ≠ (v170 : Value).ownBlock) (.slice (some ad172) t162.length co17) t162) ∧ Aside0 (Kd.R (Kd.int .i64) 3 w' w.heap.size (fun _ => True) (.slice Ao8 t165.length co8) t165) ∧ Aside0 (Kd.R (Kd.int .u64) 26 w' w.heap.size (fun k_ => some k_ ≠ ((.slice (some ad172) t162.length co17) : Value).ownBlock) v170 x8_3) ∧ Aside0 (Below w.heap.size w w'))
                        case atStart => exact ⟨(x8_2), (rd t162 x33_2), (by first | rfl | (simp; done) | (simp [*]; done)), H', ⟨Nat.le_refl _⟩, ⟨by (with_reducible repeat (first | apply Kd.R_alloc | apply Kd.R_drewN | apply Kd.R_drew)); exact HO_3.out⟩, ⟨by (with_reducible repeat (first | apply Kd.R_alloc | apply Kd.R_drewN | apply Kd.R_drew)); exact HO_4.out⟩, ⟨by (with_reducible repeat (first | apply Kd.R_alloc | apply Kd.R_drewN | apply Kd.R_drew)); exact HO_8.out⟩, ⟨by repeat (first | (with_reducible first | exact HB.out | apply below_alloc | apply pw_below_drewN | apply below_drew1) | exact HB.out)⟩⟩
                        case round =>
                          clear H'
                          try clear c1
                          try clear p1
                          try clear q1
                          try clear hx1
                          try clear c2
                          try clear p2
                          try clear c3
                          try clear p6
                          try clear c9
                          try clear c9b0
                          try clear c10
                          try clear c10b0
                          try clear c11
                          try clear c11b0
                          try clear c13
                          try clear c13b0
                          try clear c13b1
                          try clear c14
                          try clear c14b0
                          try clear c14b1
                          try clear p16
                          try clear q16
                          try clear hx16
                          try clear p17
                          try clear q17
                          try clear hx17
                          try clear c18
                          try clear c18b0
                          try clear c19
                          try clear c19b0
                          try clear c20
                          try clear c20b0
                          try clear hx168_0
                          try clear hx172_0
                          try clear p1
                          try clear p16
                          try clear p168
                          try clear p172
                          try clear p2
                          try clear p6
                          try clear q1
                          try clear q16
                          try clear q168
                          try clear q172
                          obtain ⟨x8_3, x10_3, rfl, HA, HK3, HO_3, HO_4, HO_8, HB⟩ := hrel
                          cases gk with
                          | zero => exact absurd HA.out (by simp [relation_Order.l2])
                          | succ k3 =>
                            have H := HA.out
                            clear HA
                            simp only [relation_Order.l2] at H
                            by_cases c21 : x10_3 = 0
                            · rw [if_pos c21] at H
                              have c21b0 : (x10_3 == 0) = true := beq_iff_eq.mpr c21
                              have c21b1 : (x10_3 != 0) = false := bne_eq_false_iff_eq.mpr c21
                              clear c21
                              have H' := Aside0.mk H
                              clear H
                              go_wp2
                              (first | go_roundg k3 | ((simp only [add_plain] at *); go_roundg k3))
                              case measure => have := HK1.out; have := HK2.out; have := HK3.out; omega
                              case rel => exact ⟨(x8_3), (wrap64 (x33_2 + 1)), (by first | rfl | (simp; done) | (simp [*]; done)), H', ⟨by have := HK1.out; have := HK2.out; have := HK3.out; omega⟩, ⟨by (with_reducible repeat (first | apply Kd.R_alloc | apply Kd.R_drewN | apply Kd.R_drew)); exact HO_3.out⟩, ⟨by (with_reducible repeat (first | apply Kd.R_alloc | apply Kd.R_drewN | apply Kd.R_drew)); exact HO_4.out⟩, ⟨by (with_reducible repeat (first | apply Kd.R_alloc | apply Kd.R_drewN | apply Kd.R_drew)); exact HO_8.out⟩, ⟨by repeat (first | (with_reducible first | exact HB.out | apply below_alloc | apply pw_below_drewN | apply below_drew1) | exact HB.out)⟩⟩
                            · rw [if_neg c21] at H
                              have c21b0 : (x10_3 == 0) = false := beq_eq_false_iff_ne.mpr c21
                              have c21b1 : (x10_3 != 0) = true := bne_iff_ne.mpr c21
                              by_cases c22 : 0 ≤ x33_2
                              · rw [if_pos c22] at H
                                have c22b0 : decide (0 ≤ x33_2) = true := decide_eq_true c22
                                clear c22
                                by_cases c23 : x33_2 < (t165.length : Int)
                                · rw [if_pos c23] at H
                                  have c23b0 : decide (x33_2 < (t165.length : Int)) = true := decide_eq_true c23
                                  clear c23
                                  by_cases c24 : 0 ≤ (rd t165 x33_2)
                                  · rw [if_pos c24] at H
                                    have c24b0 : decide (0 ≤ (rd t165 x33_2)) = true := decide_eq_true c24
                                    clear c24
                                    by_cases c25 : (rd t165 x33_2) < (x8_3.length : Int)
                                    · rw [if_pos c25] at H
                                      have c25b0 : decide ((rd t165 x33_2) < (x8_3.length : Int)) = true := decide_eq_true c25
                                      clear c25
                                      replace H := Option.bind_eq_some_iff.mp H
                                      obtain ⟨t175, A260, H⟩ := H
                                      replace H : (if 0 ≤ t175 then (if t175 < (t165.length : Int) then (if 0 ≤ (IntKind.u64.wrap (rd t165 t175)) then (relation_Order.l2 k3 t162 t165 (x8_3.set ((rd t165 x33_2) : Int).toNat (Go.bits .or .u64 (rd x8_3 (rd t165 x33_2)) (shl .u64 1 (IntKind.u64.wrap (rd t165 t175))))) x33_2 (Go.bits .and .u64 x10_3 (IntKind.u64.wrap (x10_3 - 1))) (t162.length : Int) x33_2) else (none)) else (none)) else (none)) = some r := H
                                      have A26 := Aside0.mk A260
                                      clear A260
                                      by_cases c27 : 0 ≤ t175
                                      · rw [if_pos c27] at H
                                        have c27b0 : decide (0 ≤ t175) = true := decide_eq_true c27
                                        clear c27
                                        by_cases c28 : t175 < (t165.length : Int)
                                        · rw [if_pos c28] at H
                                          have c28b0 : decide (t175 < (t165.length : Int)) = true := decide_eq_true c28
                                          clear c28
                                          obtain ⟨ji29, hji29⟩ : ∃ j_ : Int, (IntKind.u64.wrap (rd t165 t175)) = j_ := ⟨_, rfl⟩
                                          replace H : (if 0 ≤ (ji29) then (relation_Order.l2 k3 t162 t165 (x8_3.set ((rd t165 x33_2) : Int).toNat (Go.bits .or .u64 (rd x8_3 (rd t165 x33_2)) (shl .u64 1 (ji29)))) x33_2 (Go.bits .and .u64 x10_3 (IntKind.u64.wrap (x10_3 - 1))) (t162.length : Int) x33_2) else (none)) = some r := by first | (rw [hji29] at H; exact H) | (simp only [hji29] at H ⊢; exact H)
                                          (try rw [hji29] at A26)
                                          by_cases c30 : 0 ≤ (ji29)
                                          · rw [if_pos c30] at H
                                            have c30b0 := eq_true c30
                                            have c30b1 : decide (0 ≤ (ji29)) = true := decide_eq_true c30
                                            clear c30
                                            obtain ⟨ji31, hji31⟩ : ∃ j_ : Int, (shl .u64 1 (ji29)) = j_ := ⟨_, rfl⟩
                                            replace H : (relation_Order.l2 k3 t162 t165 (x8_3.set ((rd t165 x33_2) : Int).toNat (Go.bits .or .u64 (rd x8_3 (rd t165 x33_2)) (ji31))) x33_2 (Go.bits .and .u64 x10_3 (IntKind.u64.wrap (x10_3 - 1))) (t162.length : Int) x33_2) = some r := by first | (rw [hji31] at H; exact H) | (simp only [hji31] at H ⊢; exact H)
                                            (try rw [hji31] at A26)
                                            have hji31_ : (IntKind.u64.wrap (1 * 2 ^ min (ji29).toNat 64)) = ji31 := hji31
                                            have hji31z : (ji29) ≤ 64 → (IntKind.u64.wrap (1 * 2 ^ (ji29).toNat)) = ji31 := shl_small hji31
                                            have hji31u : (IntKind.u64.wrap (2 ^ min (ji29).toNat 64)) = ji31 := by have h_ := hji31_; rw [Int.one_mul] at h_; exact h_
                                            have hji31v : (ji29) ≤ 64 → (IntKind.u64.wrap (2 ^ (ji29).toNat)) = ji31 := fun hle_ => by have h_ := hji31z hle_; rw [Int.one_mul] at h_; exact h_
                                            obtain ⟨y177, hy177⟩ : ∃ y_ : List Int, y_ = (x8_3.set ((rd t165 x33_2) : Int).toNat (Go.bits .or .u64 (rd x8_3 (rd t165 x33_2)) (ji31))) := ⟨_, rfl⟩
                                            replace H : (relation_Order.l2 k3 t162 t165 y177 x33_2 (Go.bits .and .u64 x10_3 (IntKind.u64.wrap (x10_3 - 1))) (t162.length : Int) x33_2) = some r := by first | (rw [hy177]; with_reducible exact H) | (have H2_ := (Option.bind_some _ _).symm.trans H; rw [hy177]; with_reducible exact H2_) | (have H2_ := (Option.bind_some _ _).symm.trans H; with_reducible exact H2_) | with_reducible exact H | (rw [hy177]; exact H) | exact H
                                            have Ny177 := Aside0.mk hy177
                                            clear hy177
                                            have H' := Aside0.mk H
                                            clear H
                                            try go_wp2
                                            have n0_ := Aside0.mk (Kd.R_drew HO_3.out)
                                            have n1_ := Aside0.mk (Kd.R_drew HO_4.out)
                                            have n2_ := Aside0.mk (Kd.R_drew HO_8.out)
                                            have n3_ := Aside0.mk (below_drew1 HB.out)
                                            clear HO_3
                                            clear HO_4
                                            clear HO_8
                                            clear HB
                                            have HO_3 := n0_
                                            have HO_4 := n1_
                                            have HO_8 := n2_
                                            have HB := n3_
                                            clear n0_ n1_ n2_ n3_
                                            have p173 : 0 ≤ (x33_2 : Int) := of_decide_eq_true (by first | (with_reducible assumption) | assumption)
                                            have q173 : x33_2 < (t165.length : Int) := of_decide_eq_true (by first | (with_reducible assumption) | assumption)
                                            obtain ⟨ad173, e173, hx173_0⟩ := Kd.at_int (Kd.R_reads' HO_4.out).2.2 x33_2 p173 q173
                                            cases e173
                                            replace p173 := eq_true p173
                                            replace q173 := eq_true q173
                                            obtain ⟨Ao34, co34, eo34⟩ := Kd.R_slice HO_8.out
                                            (first | subst eo34 | (injection eo34 with f1_ f2_ f3_; have f4_ := f1_.symm; have f5_ := f3_.symm; clear f1_ f2_ f3_; subst f4_; subst f5_))
                                            have p174 : 0 ≤ ((rd t165 x33_2) : Int) := of_decide_eq_true (by first | (with_reducible assumption) | assumption)
                                            have q174 : (rd t165 x33_2) < (x8_3.length : Int) := of_decide_eq_true (by first | (with_reducible assumption) | assumption)
                                            obtain ⟨ad174, e174, hx174_0⟩ := Kd.at_int (Kd.R_reads' HO_8.out).2.2 (rd t165 x33_2) p174 q174
                                            cases e174
                                            replace p174 := eq_true p174
                                            replace q174 := eq_true q174
                                            have p176 : 0 ≤ (t175 : Int) := of_decide_eq_true (by first | (with_reducible assumption) | assumption)
                                            have q176 : t175 < (t165.length : Int) := of_decide_eq_true (by first | (with_reducible assumption) | assumption)
                                            obtain ⟨ad176, e176, hx176_0⟩ := Kd.at_int (Kd.R_reads' HO_4.out).2.2 t175 p176 q176
                                            obtain rfl : ad173 = ad176 := (by injection e176)
                                            replace p176 := eq_true p176
                                            replace q176 := eq_true q176
                                            refine start_ (n := 17) (S := fun w' => w'.cell? (ad173.add (x33_2).toNat) = some (.int .i64 (rd t165 x33_2)) ∧ w'.cell? (ad174.add ((rd t165 x33_2)).toNat) = some (.int .u64 (rd x8_3 (rd t165 x33_2))) ∧ w'.cell? (ad173.add (t175).toNat) = some (.int .i64 (rd t165 t175))) (ds := [16]) #[false, false, false, false, false, false, false, false, false, false, false, false, false, false, false, false, false] (by kernel_rfl) rfl rfl ⟨hx173_0, hx174_0, hx176_0⟩ (fun hHeld => ?_); refine with_tabW relation_Order.tab17 relation_Order.bits17 (fun HT_ HW_ => ?_)
                                            generalize wr.drew = w33 at HO_3 HO_4 HO_8 HB hx173_0 hx174_0 hx176_0 hHeld ⊢
                                            refine pure_ (i := 0) (N := some 46) (v := ?_) (a' := ?_) #[true, false, false, false, false, false, false, false, false, false, false, false, false, false, false, false, false] rfl rfl (any_of HT_.out (by kernel_rfl)) (fun _ _ _ h => h) (Or.inl ⟨by rfl, ?_⟩) ?_ ?_
                                            rotate_left
                                            · intro w'
                                              go_simp
                                              with_reducible rfl
                                            rotate_left
                                            · simp only [Act.put, List.setIfInBounds_toArray, List.set_cons_zero, List.set_cons_succ, i64_w, i32_w]
                                              rfl
                                            refine pure_ (i := 1) (N := some 47) (v := ?_) (a' := ?_) #[true, true, false, false, false, false, false, false, false, false, false, false, false, false, false, false, false] rfl rfl (any_of HT_.out (by kernel_rfl)) (fun _ _ _ h => h) (Or.inl ⟨by rfl, ?_⟩) ?_ ?_
                                            rotate_left
                                            · intro w'
                                              go_simp
                                              with_reducible rfl
                                            rotate_left
                                            · simp only [Act.put, List.setIfInBounds_toArray, List.set_cons_zero, List.set_cons_succ, i64_w, i32_w]
                                              rfl
                                            refine pure_ (i := 2) (N := some 48) (v := ?_) (a' := ?_) #[true, true, true, false, false, false, false, false, false, false, false, false, false, false, false, false, false] rfl rfl (any_of HT_.out (by kernel_rfl)) (fun _ _ _ h => h) (Or.inl ⟨by rfl, ?_⟩) ?_ ?_
                                            rotate_left
                                            · intro w'
                                              go_simp
                                              with_reducible rfl
                                            rotate_left
                                            · simp only [Act.put, List.setIfInBounds_toArray, List.set_cons_zero, List.set_cons_succ, i64_w, i32_w]
                                              rfl
                                            refine pure_ (i := 3) (N := some 49) (v := ?_) (a' := ?_) #[true, true, true, true, false, false, false, false, false, false, false, false, false, false, false, false, false] rfl rfl (any_of HT_.out (by kernel_rfl)) (fun _ _ _ h => h) (Or.inl ⟨by rfl, ?_⟩) ?_ ?_
                                            rotate_left
                                            · intro w'
                                              go_simp
                                              with_reducible rfl
                                            rotate_left
                                            · simp only [Act.put, List.setIfInBounds_toArray, List.set_cons_zero, List.set_cons_succ, i64_w, i32_w]
                                              rfl
                                            refine pure_ (i := 7) (N := some 53) (v := ?_) (a' := ?_) #[true, true, true, true, false, false, false, true, false, false, false, false, false, false, false, false, false] rfl rfl (any_of HT_.out (by kernel_rfl)) (fun _ _ _ h => h) (Or.inl ⟨by rfl, ?_⟩) ?_ ?_
                                            rotate_left
                                            · intro w'
                                              go_simp
                                              with_reducible rfl
                                            rotate_left
                                            · simp only [Act.put, List.setIfInBounds_toArray, List.set_cons_zero, List.set_cons_succ, i64_w, i32_w]
                                              rfl
                                            refine pure_ (i := 8) (N := some 54) (v := ?_) (a' := ?_) #[true, true, true, true, false, false, false, true, true, false, false, false, false, false, false, false, false] rfl rfl (any_of HT_.out (by kernel_rfl)) (fun _ _ _ h => h) (Or.inl ⟨by rfl, ?_⟩) ?_ ?_
                                            rotate_left
                                            · intro w'
                                              go_simp
                                              with_reducible rfl
                                            rotate_left
                                            · simp only [Act.put, List.setIfInBounds_toArray, List.set_cons_zero, List.set_cons_succ, i64_w, i32_w]
                                              rfl
                                            refine take_ (i := 4) (N := some 50) (v := ?_) (a' := ?_) #[true, true, true, true, true, false, false, true, true, false, false, false, false, false, false, false, false] rfl rfl (take_ofW HT_.out HW_.out (by kernel_rfl)) (fun _ _ _ h => h) (Or.inl ⟨by rfl, ?_⟩) hHeld ?_ ?_
                                            rotate_left
                                            · rintro w' ⟨s0, s1, s2⟩
                                              go_simp
                                              with_reducible rfl
                                            rotate_left
                                            · simp only [Act.put, List.setIfInBounds_toArray, List.set_cons_zero, List.set_cons_succ, i64_w, i32_w]
                                              rfl
                                            refine pure_ (i := 5) (N := some 51) (v := ?_) (a' := ?_) #[true, true, true, true, true, true, false, true, true, false, false, false, false, false, false, false, false] rfl rfl (any_of HT_.out (by kernel_rfl)) (fun _ _ _ h => h) (Or.inl ⟨by rfl, ?_⟩) ?_ ?_
                                            rotate_left
                                            · intro w'
                                              go_simp
                                              with_reducible rfl
                                            rotate_left
                                            · simp only [Act.put, List.setIfInBounds_toArray, List.set_cons_zero, List.set_cons_succ, i64_w, i32_w]
                                              rfl
                                            refine take_ (i := 6) (N := some 52) (v := ?_) (a' := ?_) #[true, true, true, true, true, true, true, true, true, false, false, false, false, false, false, false, false] rfl rfl (take_ofW HT_.out HW_.out (by kernel_rfl)) (fun _ _ _ h => h) (Or.inl ⟨by rfl, ?_⟩) hHeld ?_ ?_
                                            rotate_left
                                            · rintro w' ⟨s0, s1, s2⟩
                                              go_simp
                                              with_reducible rfl
                                            rotate_left
                                            · simp only [Act.put, List.setIfInBounds_toArray, List.set_cons_zero, List.set_cons_succ, i64_w, i32_w]
                                              rfl
                                            refine one_ (i := 9) (N := some 55) #[true, true, true, true, true, true, true, true, true, true, false, false, false, false, false, false, false] rfl rfl (one_of HT_.out (by kernel_rfl)) (by decide) (fun K hK => ?_)
                                            refine goes_ Tryd.func42 (by kernel_rfl) rfl #[.int .u64 x10_3] (by rfl) rfl rfl (by (try simp only [List.map_toArray, List.map_cons, List.map_nil]); first | done | rfl | (simp only [List.length_drop, List.length_take]; rfl)) ?_
                                            with_reducible refine (bits_TrailingZeros64.calls x10_3 t175 _ ?side1 A26.out).mono ?_
                                            (case side1 => first | (with_reducible exact HG.out) | exact Glob.below HG.out (by repeat (first | (with_reducible first | exact HB.out | apply below_alloc | apply pw_below_drewN | apply below_drew1) | exact HB.out)))
                                            rintro e w' ⟨rfl, ⟨nd, rfl⟩⟩
                                            refine ⟨_, rfl, ?_⟩
                                            have p32 : 0 ≤ ((rd t165 x33_2) : Int) := of_decide_eq_true (by first | (with_reducible assumption) | assumption)
                                            have q32 : ((rd t165 x33_2) : Int) < ((x8_3.length : Int) : Int) := of_decide_eq_true (by first | (with_reducible assumption) | assumption)
                                            obtain ⟨go32, co32, eo32, gb32, gl32, cl32, HG32⟩ := Kd.R_form HO_8.out (by omega)
                                            (first | cases eo32 | (injection eo32 with ea_ en_ ec_; (first | subst ea_ | (injection ea_ with ea_; subst ea_)); subst ec_; clear en_))
                                            have GB32 := Aside0.mk gb32
                                            have GG32 := Aside0.mk HG32
                                            clear gb32 gl32 HG32
                                            (first | simp only [add_plain] at hx174_0 | skip)
                                            obtain ⟨hx32_0, hf32_0⟩ := Kd.R_celln 0 HO_8.out ((rd t165 x33_2) : Int) p32 q32
                                            replace p32 := eq_true p32
                                            replace q32 := eq_true q32
                                            have HP35 := Kd.R_putn HO_8.out ((rd t165 x33_2) : Int) (Go.bits .or .u64 (rd x8_3 (rd t165 x33_2)) (ji31))
                                            rw [← Ny177.out] at HP35
                                            have HQ35 := Aside0.mk HP35
                                            clear HP35
                                            refine hK.out _ _ ⟨hHeld.1, hHeld.2.1, hHeld.2.2⟩ (fun hHeld => ?_)
                                            clear hK K
                                            refine norm_ (a' := ?_) ?_ ?_
                                            rotate_left
                                            · show Act.put _ (some 55) _ = _
                                              simp only [Act.put, List.setIfInBounds_toArray, List.set_cons_zero, List.set_cons_succ, i64_w, i32_w]
                                              rfl
                                            refine pure_ (i := 10) (N := some 56) (v := ?_) (a' := ?_) #[true, true, true, true, true, true, true, true, true, true, true, false, false, false, false, false, false] rfl rfl (any_of HT_.out (by kernel_rfl)) (fun _ _ _ h => h) (Or.inl ⟨by rfl, ?_⟩) ?_ ?_
                                            rotate_left
                                            · intro w'
                                              go_simp
                                              with_reducible rfl
                                            rotate_left
                                            · simp only [Act.put, List.setIfInBounds_toArray, List.set_cons_zero, List.set_cons_succ, i64_w, i32_w]
                                              rfl
                                            refine take_ (i := 11) (N := some 57) (v := ?_) (a' := ?_) #[true, true, true, true, true, true, true, true, true, true, true, true, false, false, false, false, false] rfl rfl (take_ofW HT_.out HW_.out (by kernel_rfl)) (fun _ _ _ h => h) (Or.inl ⟨by rfl, ?_⟩) hHeld ?_ ?_
                                            rotate_left
                                            · rintro w' ⟨s0, s1, s2⟩
                                              go_simp
                                              with_reducible rfl
                                            rotate_left
                                            · simp only [Act.put, List.setIfInBounds_toArray, List.set_cons_zero, List.set_cons_succ, i64_w, i32_w]
                                              rfl
                                            refine pure_ (i := 12) (N := some 58) (v := ?_) (a' := ?_) #[true, true, true, true, true, true, true, true, true, true, true, true, true, false, false, false, false] rfl rfl (any_of HT_.out (by kernel_rfl)) (fun _ _ _ h => h) (Or.inl ⟨by rfl, ?_⟩) ?_ ?_
                                            rotate_left
                                            · intro w'
                                              go_simp
                                              with_reducible rfl
                                            rotate_left
                                            · simp only [Act.put, List.setIfInBounds_toArray, List.set_cons_zero, List.set_cons_succ, i64_w, i32_w]
                                              rfl
                                            refine pure_ (i := 13) (N := some 59) (v := ?_) (a' := ?_) #[true, true, true, true, true, true, true, true, true, true, true, true, true, true, false, false, false] rfl rfl (any_of HT_.out (by kernel_rfl)) (fun _ _ _ h => h) (Or.inl ⟨by rfl, ?_⟩) ?_ ?_
                                            rotate_left
                                            · intro w'
                                              go_simp
                                              with_reducible rfl
                                            rotate_left
                                            · simp only [Act.put, List.setIfInBounds_toArray, List.set_cons_zero, List.set_cons_succ, i64_w, i32_w]
                                              rfl
                                            refine pure_ (i := 14) (N := some 60) (v := ?_) (a' := ?_) #[true, true, true, true, true, true, true, true, true, true, true, true, true, true, true, false, false] rfl rfl (any_of HT_.out (by kernel_rfl)) (fun _ _ _ h => h) (Or.inl ⟨by rfl, ?_⟩) ?_ ?_
                                            rotate_left
                                            · intro w'
                                              go_simp
                                              with_reducible rfl
                                            rotate_left
                                            · simp only [Act.put, List.setIfInBounds_toArray, List.set_cons_zero, List.set_cons_succ, i64_w, i32_w]
                                              rfl
                                            refine pure_ (i := 15) (N := some 61) (v := ?_) (a' := ?_) #[true, true, true, true, true, true, true, true, true, true, true, true, true, true, true, true, false] rfl rfl (any_of HT_.out (by kernel_rfl)) (fun _ _ _ h => h) (Or.inl ⟨by rfl, ?_⟩) ?_ ?_
                                            rotate_left
                                            · intro w'
                                              go_simp
                                              with_reducible rfl
                                            rotate_left
                                            · simp only [Act.put, List.setIfInBounds_toArray, List.set_cons_zero, List.set_cons_succ, i64_w, i32_w]
                                              rfl
                                            refine last_ (i := 16) (N := none) #[true, true, true, true, true, true, true, true, true, true, true, true, true, true, true, true, true] rfl rfl (one_of HT_.out (by kernel_rfl)) (by decide) (fun K hK => ?_)
                                            refine skip_ (w1 := ?_) (by rfl) rfl ?_ ?_
                                            rotate_left
                                            · go_simp
                                              rfl
                                            refine hK.out _ _ ?_
                                            clear hK K
                                            refine done_ (done_of HT_.out (by kernel_rfl)) ?_
                                            try go_wp2
                                            (first | go_roundg k3 | ((simp only [add_plain] at *); go_roundg k3))
                                            case measure => have := HK1.out; have := HK2.out; have := HK3.out; omega
                                            case rel => exact ⟨(y177), (Go.bits .and .u64 x10_3 (IntKind.u64.wrap (x10_3 - 1))), (by first | rfl | (simp; done) | (simp [*]; done)), H', ⟨by have := HK1.out; have := HK2.out; have := HK3.out; omega⟩, ⟨by (with_reducible repeat (first | apply Kd.R_alloc | apply Kd.R_drewN | apply Kd.R_drew)); exact Kd.R_mono (Kd.R_far (p := ⟨go32, ((rd t165 x33_2) : Int).toNat, none⟩) (Kd.R_mono HO_3.out (fun k_ hk => (⟨hk, fun e_ => hk (by rw [e_]; rfl)⟩ : _ ∧ k_ ≠ go32))) (fun _ hk => hk.2) (.int .u64 (Go.bits .or .u64 (rd x8_3 (rd t165 x33_2)) (ji31)))) (fun _ hk => hk.1)⟩, ⟨by (with_reducible repeat (first | apply Kd.R_alloc | apply Kd.R_drewN | apply Kd.R_drew)); exact Kd.R_mono (Kd.R_far (p := ⟨go32, ((rd t165 x33_2) : Int).toNat, none⟩) (Kd.R_types HO_4.out GG32.out (by decide)) (fun _ hk => hk.2) (.int .u64 (Go.bits .or .u64 (rd x8_3 (rd t165 x33_2)) (ji31)))) (fun _ hk => trivial)⟩, ⟨by (with_reducible repeat (first | apply Kd.R_alloc | apply Kd.R_drewN | apply Kd.R_drew)); exact HQ35.out⟩, ⟨by repeat (first | (with_reducible first | exact HB.out | apply below_alloc | apply pw_below_drewN | apply below_drew1 | refine below_set ?_ GB32.out) | exact HB.out)⟩⟩
                                          · rw [if_neg c30] at H
                                            exact absurd H (by simp)
                                        · rw [if_neg c28] at H
                                          exact absurd H (by simp)
                                      · rw [if_neg c27] at H
                                        exact absurd H (by simp)
                                    · rw [if_neg c25] at H
                                      exact absurd H (by simp)
                                  · rw [if_neg c24] at H
                                    exact absurd H (by simp)
                                · rw [if_neg c23] at H
                                  exact absurd H (by simp)
                              · rw [if_neg c22] at H
                                exact absurd H (by simp)
                      · rw [if_neg c20] at H
                        exact absurd H (by simp)
                    · rw [if_neg c19] at H
                      exact absurd H (by simp)
                  · rw [if_neg c18] at H
                    have c18b0 : decide (x33_2 < (t162.length : Int)) = false := decide_eq_false c18
                    clear c18
                    obtain rfl := Option.some.inj H
                    go_wp2
                    go_ret
                    exact ⟨_, by first | rfl | (simp [errW_none, errW_some] <;> rfl) | (simp [*, errW_none, errW_some] <;> rfl), by (with_reducible repeat (first | apply Kd.R_alloc | apply Kd.R_drewN | apply Kd.R_drew)); exact Kd.R_mono HO_8.out (fun _ hk => trivial), by repeat (first | (with_reducible first | exact HB.out | apply below_alloc | apply pw_below_drewN | apply below_drew1) | exact HB.out)⟩
            · rw [if_neg c14] at H
              exact absurd H (by simp)
          · rw [if_neg c13] at H
            exact absurd H (by simp)
  · replace c3 := Bool.eq_false_iff.mpr c3
    subst c3
    have H1 : (some ([] : List Int)) = some r := by rw [if_neg (show ¬ (false = true) by decide)] at H; exact H
    clear H
    have H := H1
    clear H1
    obtain rfl := Option.some.inj H
    go_enter Tryd.func34, Tryd.ntmps34
    go_wp2_with (first | ((with_reducible refine gate_callee (f := 37) rfl ?_); refine goesL_ (some 12) rfl rfl Tryd.func37 (by kernel_rfl) rfl #[.slice A0 l0.length c0] rfl (by (try simp only [List.map_toArray, List.map_cons, List.map_nil]); first | done | rfl | (simp only [List.length_drop, List.length_take]; rfl)) ?_; (with_reducible refine (relation_Valid.calls k _ _ l0 false _ ?side1 ?side2 A2.out).mono ?_); (case side1 => repeat (first | exact HR0.out | (with_reducible refine Kd.C_alloc ?_ _) | (with_reducible refine Kd.C_drewN ?_ _) | (with_reducible refine Kd.C_drew ?_))); (case side2 => exact HC0.out); rintro e w' ⟨rfl, ⟨nd, rfl⟩⟩; refine ⟨_, rfl, ?_⟩))
    go_ret
    exact ⟨_, by first | rfl | (simp [errW_none, errW_some] <;> rfl) | (simp [*, errW_none, errW_some] <;> rfl), by first | exact Kd.R_nil _ _ _ _ _ | exact Kd.N_nil _ _ _ _ _ | exact Kd.V_nil _ _ _ _ _ | exact Kd.Q_nil _ _ _ _ _ | exact Kd.S_nil _ _ _ _ _, by repeat (first | (with_reducible first | exact HB.out | apply below_alloc | apply pw_below_drewN | apply below_drew1) | exact HB.out)⟩

end Go.Proofs.YtndpeoladndepaaDoor.PRelationCondenses
