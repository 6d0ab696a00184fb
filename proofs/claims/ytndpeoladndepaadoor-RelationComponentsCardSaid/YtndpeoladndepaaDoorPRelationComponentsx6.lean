-- Laid by a program of this session.
import Derived.Test.YtndpeoladndepaaDoorPRelationComponentsx0
import Derived.Test.YtndpeoladndepaaDoorPRelationComponentsx4
import Derived.Test.YtndpeoladndepaaDoorPRelationComponentsx5
import Derived.Test.YtndpeoladndepaaDoorPRelationComponentsxExt
namespace Go.Proofs.YtndpeoladndepaaDoor.PRelationComponents
open Go.RowKit Go.Proofs.YtndpeoladndepaaDoorW.PrintWords Go.Proofs.YtndpeoladndepaaDoorW.PrintLast Go.Proofs.YtndpeoladndepaaDoorW.PrintMore
attribute [local go_sem] max2_int min2_int max_two min_two max_three min_three max_four min_four   -- for this text's walks alone
set_option linter.unusedVariables false
set_option linter.unusedSimpArgs false

/-! ### semigroupref02_Components: function 35 -/
mutual
def semigroupref02_Components.l0 : Nat → List Int → List Int → Int → Int → Int → Option (List Int)
  | 0, _, _, _, _, _ => none
  | k + 1, x3, x4, x5, x14, x15 => if x15 < x14 then (if 0 ≤ x15 then (if x15 < (x4.length : Int) then (semigroupref02_Components.l1 k x3 (x4.set (x15 : Int).toNat (-1)) x5 x15 0 x14 x15) else (none)) else (none)) else (some x4)
def semigroupref02_Components.l1 : Nat → List Int → List Int → Int → Int → Int → Int → Int → Option (List Int)
  | 0, _, _, _, _, _, _, _ => none
  | k + 1, x3, x4, x5, x6, x7, x14, x15 => if x7 < x6 then (if 0 ≤ x6 then (if x6 < (x3.length : Int) then ((semigroupref02_Has.f (rd x3 x6) x7).bind fun t181 => (if t181 = true then (if 0 ≤ x7 then (if x7 < (x3.length : Int) then ((semigroupref02_Has.f (rd x3 x7) x6).bind fun t183 => (if t183 = true then (if x7 < (x4.length : Int) then (if x6 < (x4.length : Int) then (semigroupref02_Components.l1 k x3 (x4.set (x6 : Int).toNat (rd x4 x7)) x5 x6 (wrap64 (x7 + 1)) x14 x15) else (none)) else (none)) else (semigroupref02_Components.l1 k x3 x4 x5 x6 (wrap64 (x7 + 1)) x14 x15))) else (none)) else (none)) else (semigroupref02_Components.l1 k x3 x4 x5 x6 (wrap64 (x7 + 1)) x14 x15))) else (none)) else (none)) else (if 0 ≤ x6 then (if x6 < (x4.length : Int) then (if (rd x4 x6) < 0 then (semigroupref02_Components.l0 k x3 (x4.set (x6 : Int).toNat x5) (wrap64 (x5 + 1)) x14 (wrap64 (x15 + 1))) else (semigroupref02_Components.l0 k x3 x4 x5 x14 (wrap64 (x15 + 1)))) else (none)) else (none))
end
def semigroupref02_Components.f (k : Nat) (l0 : List Int) : Option (List Int) := (semigroupref02_Closure.f k l0).bind fun t171 => (if 0 ≤ (l0.length : Int) then (if ((l0.length : Int) : Int).toNat ≤ 35184372088832 then ((some (List.replicate ((l0.length : Int) : Int).toNat 0 : List Int)).bind fun y174 => (semigroupref02_Components.l0 k t171 y174 0 (y174.length : Int) 0)) else (none)) else (none))
theorem semigroupref02_Components.mono_l : ∀ k, (∀ y0 y1 y2 y3 y4, LeO (semigroupref02_Components.l0 k y0 y1 y2 y3 y4) (semigroupref02_Components.l0 (k + 1) y0 y1 y2 y3 y4)) ∧ (∀ y0 y1 y2 y3 y4 y5 y6, LeO (semigroupref02_Components.l1 k y0 y1 y2 y3 y4 y5 y6) (semigroupref02_Components.l1 (k + 1) y0 y1 y2 y3 y4 y5 y6))
  | 0 => ⟨fun _ _ _ _ _ r h => by simp [semigroupref02_Components.l0] at h, fun _ _ _ _ _ _ _ r h => by simp [semigroupref02_Components.l1] at h⟩
  | k + 1 => by
    obtain ⟨ih0, ih1⟩ := semigroupref02_Components.mono_l k
    refine ⟨?_, ?_⟩
    · intro y0 y1 y2 y3 y4
      unfold semigroupref02_Components.l0
      repeat' first
      | (with_reducible exact ih0 _ _ _ _ _)
      | (with_reducible exact ih1 _ _ _ _ _ _ _)
      | (with_reducible exact semigroupref02_Closure.mono _ _)
      | (with_reducible exact LeO.refl _)
      | (with_reducible exact LeO.none _)
      | (with_reducible refine LeO.ite ?_ ?_)
      | (with_reducible refine LeO.bind ?_ (fun _ => ?_))
      | exact ih0 _ _ _ _ _
      | exact ih1 _ _ _ _ _ _ _
      | exact semigroupref02_Closure.mono _ _
      | exact LeO.none _
      | refine LeO.ite ?_ ?_
      | refine LeO.bind ?_ (fun _ => ?_)
    · intro y0 y1 y2 y3 y4 y5 y6
      unfold semigroupref02_Components.l1
      repeat' first
      | (with_reducible exact ih0 _ _ _ _ _)
      | (with_reducible exact ih1 _ _ _ _ _ _ _)
      | (with_reducible exact semigroupref02_Closure.mono _ _)
      | (with_reducible exact LeO.refl _)
      | (with_reducible exact LeO.none _)
      | (with_reducible refine LeO.ite ?_ ?_)
      | (with_reducible refine LeO.bind ?_ (fun _ => ?_))
      | exact ih0 _ _ _ _ _
      | exact ih1 _ _ _ _ _ _ _
      | exact semigroupref02_Closure.mono _ _
      | exact LeO.none _
      | refine LeO.ite ?_ ?_
      | refine LeO.bind ?_ (fun _ => ?_)
theorem semigroupref02_Components.mono : ∀ a0 k, LeO (semigroupref02_Components.f k a0) (semigroupref02_Components.f (k + 1) a0) := by
  intro a0 k
  obtain ⟨ih0, ih1⟩ := semigroupref02_Components.mono_l k
  unfold semigroupref02_Components.f
  repeat' first
      | (with_reducible exact ih0 _ _ _ _ _)
      | (with_reducible exact ih1 _ _ _ _ _ _ _)
      | (with_reducible exact semigroupref02_Closure.mono _ _)
      | (with_reducible exact LeO.refl _)
      | (with_reducible exact LeO.none _)
      | (with_reducible refine LeO.ite ?_ ?_)
      | (with_reducible refine LeO.bind ?_ (fun _ => ?_))
      | exact ih0 _ _ _ _ _
      | exact ih1 _ _ _ _ _ _ _
      | exact semigroupref02_Closure.mono _ _
      | exact LeO.none _
      | refine LeO.ite ?_ ?_
      | refine LeO.bind ?_ (fun _ => ?_)
set_option maxHeartbeats 8000000 in
set_option maxRecDepth 100000 in
theorem semigroupref02_Components.calls (k : Nat) (A0 : Option Addr) (c0 : Nat) (l0 : List Int) (r : List Int) (w : World) (hr0 : Kd.C (Kd.int .u64) w A0 l0.length l0) (hc0 : l0.length ≤ c0) (h : semigroupref02_Components.f k l0 = some r) :
    Calls Tryd.prog 35 #[.slice A0 l0.length c0] w fun e w' => ∃ v0_ : Value, e = .returned (v0_) ∧ Kd.R (Kd.int .i64) 3 w' w.heap.size (fun _ => True) v0_ r ∧ Below w.heap.size w w' := by
  have HR0 := Aside0.mk hr0
  have HC0 := Aside0.mk hc0
  clear hr0 hc0
  have HB := Aside0.mk (Below.refl w.heap.size w)
  have H : ((semigroupref02_Closure.f k l0).bind fun t171 => (if 0 ≤ (l0.length : Int) then (if ((l0.length : Int) : Int).toNat ≤ 35184372088832 then ((some (List.replicate ((l0.length : Int) : Int).toNat 0 : List Int)).bind fun y174 => (semigroupref02_Components.l0 k t171 y174 0 (y174.length : Int) 0)) else (none)) else (none))) = some r := h
  clear h
  replace H := Option.bind_eq_some_iff.mp H
  obtain ⟨t171, A20, H⟩ := H
  replace H : (if 0 ≤ (l0.length : Int) then (if ((l0.length : Int) : Int).toNat ≤ 35184372088832 then ((some (List.replicate ((l0.length : Int) : Int).toNat 0 : List Int)).bind fun y174 => (semigroupref02_Components.l0 k t171 y174 0 (y174.length : Int) 0)) else (none)) else (none)) = some r := H
  have A2 := Aside0.mk A20
  clear A20
  by_cases c3 : 0 ≤ (l0.length : Int)
  · rw [if_pos c3] at H
    have c3b0 := eq_true c3
    have c3b1 : decide (0 ≤ (l0.length : Int)) = true := decide_eq_true c3
    clear c3
    by_cases c4 : ((l0.length : Int) : Int).toNat ≤ 35184372088832
    · rw [if_pos c4] at H
      have c4b0 := eq_true c4
      have c4b1 : decide (((l0.length : Int) : Int).toNat ≤ 35184372088832) = true := decide_eq_true c4
      clear c4
      obtain ⟨y174, hy174⟩ : ∃ y_ : List Int, y_ = (List.replicate ((l0.length : Int) : Int).toNat 0) := ⟨_, rfl⟩
      replace H : (semigroupref02_Components.l0 k t171 y174 0 (y174.length : Int) 0) = some r := by first | (rw [hy174]; with_reducible exact H) | (have H2_ := (Option.bind_some _ _).symm.trans H; rw [hy174]; with_reducible exact H2_) | (have H2_ := (Option.bind_some _ _).symm.trans H; with_reducible exact H2_) | with_reducible exact H | (rw [hy174]; exact H) | exact H
      have Ny174 := Aside0.mk hy174
      clear hy174
      have H' := Aside0.mk H
      clear H
      go_enter Tryd.func35, Tryd.ntmps35
      go_wp2_with (first | ((with_reducible refine gate_callee (f := 44) rfl ?_); refine goesL_ (some 9) rfl rfl Tryd.func44 (by kernel_rfl) rfl #[.slice A0 l0.length c0] rfl (by (try simp only [List.map_toArray, List.map_cons, List.map_nil]); first | done | rfl | (simp only [List.length_drop, List.length_take]; rfl)) ?_; (with_reducible refine (semigroupref02_Closure.calls k _ _ l0 t171 _ ?side1 ?side2 A2.out).mono ?_); (case side1 => repeat (first | exact HR0.out | (with_reducible refine Kd.C_alloc ?_ _) | (with_reducible refine Kd.C_drewN ?_ _) | (with_reducible refine Kd.C_drew ?_))); (case side2 => exact HC0.out); rintro e w5 ⟨v172, rfl, ho0, hb⟩; refine ⟨_, rfl, ?_⟩; have n0_ := Aside0.mk (Kd.R_lower ho0 (below_size (by repeat (first | (with_reducible first | exact HB.out | apply below_alloc | apply pw_below_drewN | apply below_drew1) | exact HB.out)))); have n1_ := Aside0.mk (below_step (by repeat (first | (with_reducible first | exact HB.out | apply below_alloc | apply pw_below_drewN | apply below_drew1) | exact HB.out)) hb); clear HB; have HO173 := n0_; have HB := n1_; clear n0_ n1_; (try clear hb); (try clear hb2); (try clear hk); (try clear hi); (try clear ho0)) | ((with_reducible refine gate_dst (N := 12) rfl ?_); refine Kd.R_make (Kd.int .i64) _ 3 rfl (N := 12) rfl 28 _ _ rfl (l0.length : Int) rfl rfl Tryd.underlying28 (.int .i64 0) 8 info3 rfl (by decide) (by omega) 0 (ok := fun _ => True) (okp := fun _ => True) rfl (fun _ hk => hk) trivial (of_decide_eq_true (by first | (with_reducible assumption) | assumption)) (Nat.le_trans (Nat.mul_le_mul_right _ (of_decide_eq_true (by first | (with_reducible assumption) | assumption) : (l0.length : Int).toNat ≤ 35184372088832)) (by omega)) (Below.refl _ _) (Nat.le_refl _) ?_; intro v175 w6 ho7 hb hg_ hnew_; clear hg_ hnew_; (first | rw [← Ny174.out] at ho7 | (simp only [Int.reduceToNat] at ho7; rw [← Ny174.out] at ho7)); have n0_ := Aside0.mk (Kd.R_below (by (with_reducible repeat (first | apply Kd.R_alloc | apply Kd.R_drewN | apply Kd.R_drew)); exact HO173.out) hb); have n1_ := Aside0.mk (Kd.R_lower ho7 (below_size (by repeat (first | (with_reducible first | exact HB.out | apply below_alloc | apply pw_below_drewN | apply below_drew1) | exact HB.out)))); have n2_ := Aside0.mk (below_step (by repeat (first | (with_reducible first | exact HB.out | apply below_alloc | apply pw_below_drewN | apply below_drew1) | exact HB.out)) hb); clear HO173; clear HB; have HO173 := n0_; have HO176 := n1_; have HB := n2_; clear n0_ n1_ n2_; clear hb ho7; obtain ⟨Ao8, co8, eo8⟩ := Kd.R_slice HO176.out; subst eo8))
      go_loopg [5, 15] k (fun kq v5 v15 w' => ∃ (x4_1 : List Int) (x5_1 : Int) (x15_1 : Int), v5 = .int .i64 x5_1 ∧ v15 = .int .i64 x15_1 ∧ Aside0 (semigroupref02_Components.l0 kq t171 x4_1 x5_1 (y174.length : Int) x15_1 = some r) ∧ Aside0 (kq ≤ k) ∧ Aside0 (Kd.R (Kd.int .u64) 26 w' w.heap.size (fun _ => True) v172 t171) ∧ Aside0 (Kd.R (Kd.int .i64) 3 w' w.heap.size (fun _ => True) (.slice Ao8 y174.length co8) x4_1) ∧ Aside0 (Below w.heap.size w w'))
      case atStart => exact ⟨(y174), (0), (0), (by first | rfl | (simp; done) | (simp [*]; done)), (by first | rfl | (simp; done) | (simp [*]; done)), H', ⟨Nat.le_refl _⟩, ⟨by (with_reducible repeat (first | apply Kd.R_alloc | apply Kd.R_drewN | apply Kd.R_drew)); exact HO173.out⟩, ⟨by (with_reducible repeat (first | apply Kd.R_alloc | apply Kd.R_drewN | apply Kd.R_drew)); exact HO176.out⟩, ⟨by repeat (first | (with_reducible first | exact HB.out | apply below_alloc | apply pw_below_drewN | apply below_drew1) | exact HB.out)⟩⟩
      case round =>
        clear H'
        try clear p2
        try clear c3
        try clear c3b0
        try clear c3b1
        try clear c4
        try clear c4b0
        try clear c4b1
        obtain ⟨x4_1, x5_1, x15_1, rfl, rfl, HA, HK1, HO_3, HO_4, HB⟩ := hrel
        have hl4_1 := (Kd.R_reads' HO_4.out).1
        rw [hl4_1] at HO_4
        (try simp only [hl4_1])
        (try simp only [hl4_1] at HO_3)
        cases gk with
        | zero => exact absurd HA.out (by simp [semigroupref02_Components.l0])
        | succ k1 =>
          have H := HA.out
          clear HA
          simp only [semigroupref02_Components.l0] at H
          by_cases c9 : x15_1 < (y174.length : Int)
          · rw [if_pos c9] at H
            have c9b0 : decide (x15_1 < (y174.length : Int)) = true := decide_eq_true c9
            (try (have c9b0h := c9b0; simp only [hl4_1] at c9b0h))
            clear c9
            by_cases c10 : 0 ≤ x15_1
            · rw [if_pos c10] at H
              have c10b0 : decide (0 ≤ x15_1) = true := decide_eq_true c10
              clear c10
              by_cases c11 : x15_1 < (x4_1.length : Int)
              · rw [if_pos c11] at H
                have c11b0 : decide (x15_1 < (x4_1.length : Int)) = true := decide_eq_true c11
                (try (have c11b0h := c11b0; simp only [hl4_1] at c11b0h))
                clear c11
                obtain ⟨y177, hy177⟩ : ∃ y_ : List Int, y_ = (x4_1.set (x15_1 : Int).toNat (-1)) := ⟨_, rfl⟩
                replace H : (semigroupref02_Components.l1 k1 t171 y177 x5_1 x15_1 0 (y174.length : Int) x15_1) = some r := by first | (rw [hy177]; with_reducible exact H) | (have H2_ := (Option.bind_some _ _).symm.trans H; rw [hy177]; with_reducible exact H2_) | (have H2_ := (Option.bind_some _ _).symm.trans H; with_reducible exact H2_) | with_reducible exact H | (rw [hy177]; exact H) | exact H
                have Ny177 := Aside0.mk hy177
                clear hy177
                have H' := Aside0.mk H
                clear H
                have p12 : 0 ≤ (x15_1 : Int) := of_decide_eq_true (by first | (with_reducible assumption) | assumption)
                have q12 : (x15_1 : Int) < ((x4_1.length : Int) : Int) := of_decide_eq_true (by first | (with_reducible assumption) | assumption)
                obtain ⟨go12, co12, eo12, gb12, gl12, cl12, HG12⟩ := Kd.R_form HO_4.out (by omega)
                (first | cases eo12 | (injection eo12 with ea_ en_ ec_; (first | subst ea_ | (injection ea_ with ea_; subst ea_)); subst ec_; clear en_))
                have GB12 := Aside0.mk gb12
                have GG12 := Aside0.mk HG12
                clear gb12 gl12 HG12
                obtain ⟨hx12_0, hf12_0⟩ := Kd.R_celln 0 HO_4.out (x15_1 : Int) p12 q12
                replace p12 := eq_true p12
                replace q12 := eq_true q12
                have HP13 := Kd.R_putg HO_4.out (x15_1 : Int) (-1)
                go_wp2_with (first | ((with_reducible refine gate_store (t := 3) (p := 20) rfl ?_); refine store_event (t := 3) (p := 20) (v := ?vo_w14) (w1 := (wr.setCell ⟨go12, (x15_1 : Int).toNat, none⟩ (.int .i64 (-1)))) ?hg ?ho ?hn ?hr ?_; (case ho => rfl); (case hg => rfl); (case hn => rfl); (case hr => first | (go_simp; done) | (go_simp; rfl)); intro w14 hw; have hg : wr.grownBy w14 (some go12) := (by rw [hw]; exact HP13.2); have hp_ : Kd.R (Kd.int .i64) 3 w14 w.heap.size (fun _ => True) (.slice (some ⟨go12, 0, none⟩) x4_1.length co8) y177 := (by rw [hw, Ny177.out]; exact HP13.1); clear HP13; have n0_ := Aside0.mk (Kd.R_over' (v := (.slice (some ⟨go12, 0, none⟩) x4_1.length co8)) (by (with_reducible repeat (first | apply Kd.R_alloc | apply Kd.R_drewN | apply Kd.R_drew)); exact HO_3.out) (Kd.R_typed HO_4.out) (by decide) hg); have n1_ := Aside0.mk (hp_); have n2_ := Aside0.mk ((by rw [hw]; exact below_set (HB.out) GB12.out : Below w.heap.size w w14)); clear HO_3; clear HO_4; clear HB; have HO_3 := n0_; have HO_4 := n1_; have HB := n2_; clear n0_ n1_ n2_; clear hg hw hp_))
                go_loopg [7] k1 (fun kq v7 w' => ∃ (x4_2 : List Int) (x7_2 : Int), v7 = .int .i64 x7_2 ∧ Aside0 (semigroupref02_Components.l1 kq t171 x4_2 x5_1 x15_1 x7_2 (y174.length : Int) x15_1 = some r) ∧ Aside0 (kq ≤ k1) ∧ Aside0 (Kd.R (Kd.int .u64) 26 w' w.heap.size (fun _ => True) v172 t171) ∧ Aside0 (Kd.R (Kd.int .i64) 3 w' w.heap.size (fun _ => True) (.slice (some ⟨go12, 0, none⟩) x4_1.length co8) x4_2) ∧ Aside0 (Below w.heap.size w w'))
                case atStart => exact ⟨(y177), (0), (by first | rfl | (simp; done) | (simp [*]; done)), H', ⟨Nat.le_refl _⟩, ⟨by (try simp only [hl4_1]); (with_reducible repeat (first | apply Kd.R_alloc | apply Kd.R_drewN | apply Kd.R_drew)); exact HO_3.out⟩, ⟨by (try simp only [hl4_1]); (with_reducible repeat (first | apply Kd.R_alloc | apply Kd.R_drewN | apply Kd.R_drew)); exact HO_4.out⟩, ⟨by repeat (first | (with_reducible first | exact HB.out | apply below_alloc | apply pw_below_drewN | apply below_drew1) | exact HB.out)⟩⟩
                case round =>
                  clear H'
                  try clear c1
                  try clear p1
                  try clear q1
                  try clear hx1
                  try clear hf1
                  try clear p2
                  try clear c3
                  try clear c3b0
                  try clear c3b1
                  try clear c4
                  try clear c4b0
                  try clear c4b1
                  try clear c9
                  try clear c9b0
                  try clear c10
                  try clear c10b0
                  try clear c11
                  try clear c11b0
                  try clear p12
                  try clear q12
                  try clear hx12
                  try clear hf12
                  try clear hx12_0
                  try clear p12
                  try clear p2
                  try clear q12
                  obtain ⟨x4_2, x7_2, rfl, HA, HK2, HO_3, HO_4, HB⟩ := hrel
                  have hl4_2 := (Kd.R_reads' HO_4.out).1
                  rw [hl4_2] at HO_4
                  (try simp only [hl4_2])
                  (try simp only [hl4_2] at HO_3)
                  cases gk with
                  | zero => exact absurd HA.out (by simp [semigroupref02_Components.l1])
                  | succ k2 =>
                    have H := HA.out
                    clear HA
                    simp only [semigroupref02_Components.l1] at H
                    by_cases c15 : x7_2 < x15_1
                    · rw [if_pos c15] at H
                      have c15b0 : decide (x7_2 < x15_1) = true := decide_eq_true c15
                      clear c15
                      by_cases c16 : 0 ≤ x15_1
                      · rw [if_pos c16] at H
                        have c16b0 : decide (0 ≤ x15_1) = true := decide_eq_true c16
                        clear c16
                        by_cases c17 : x15_1 < (t171.length : Int)
                        · rw [if_pos c17] at H
                          have c17b0 : decide (x15_1 < (t171.length : Int)) = true := decide_eq_true c17
                          (try (have c17b0h := c17b0; simp only [hl4_1, hl4_2] at c17b0h))
                          clear c17
                          replace H := Option.bind_eq_some_iff.mp H
                          obtain ⟨t181, A180, H⟩ := H
                          replace H : (if t181 = true then (if 0 ≤ x7_2 then (if x7_2 < (t171.length : Int) then ((semigroupref02_Has.f (rd t171 x7_2) x15_1).bind fun t183 => (if t183 = true then (if x7_2 < (x4_2.length : Int) then (if x15_1 < (x4_2.length : Int) then (semigroupref02_Components.l1 k2 t171 (x4_2.set (x15_1 : Int).toNat (rd x4_2 x7_2)) x5_1 x15_1 (wrap64 (x7_2 + 1)) (y174.length : Int) x15_1) else (none)) else (none)) else (semigroupref02_Components.l1 k2 t171 x4_2 x5_1 x15_1 (wrap64 (x7_2 + 1)) (y174.length : Int) x15_1))) else (none)) else (none)) else (semigroupref02_Components.l1 k2 t171 x4_2 x5_1 x15_1 (wrap64 (x7_2 + 1)) (y174.length : Int) x15_1)) = some r := H
                          have A18 := Aside0.mk A180
                          clear A180
                          by_cases c19 : t181 = true
                          · subst c19
                            have H1 : (if 0 ≤ x7_2 then (if x7_2 < (t171.length : Int) then ((semigroupref02_Has.f (rd t171 x7_2) x15_1).bind fun t183 => (if t183 = true then (if x7_2 < (x4_2.length : Int) then (if x15_1 < (x4_2.length : Int) then (semigroupref02_Components.l1 k2 t171 (x4_2.set (x15_1 : Int).toNat (rd x4_2 x7_2)) x5_1 x15_1 (wrap64 (x7_2 + 1)) (y174.length : Int) x15_1) else (none)) else (none)) else (semigroupref02_Components.l1 k2 t171 x4_2 x5_1 x15_1 (wrap64 (x7_2 + 1)) (y174.length : Int) x15_1))) else (none)) else (none)) = some r := by rw [if_pos rfl] at H; exact H
                            clear H
                            have H := H1
                            clear H1
                            by_cases c20 : 0 ≤ x7_2
                            · rw [if_pos c20] at H
                              have c20b0 : decide (0 ≤ x7_2) = true := decide_eq_true c20
                              clear c20
                              by_cases c21 : x7_2 < (t171.length : Int)
                              · rw [if_pos c21] at H
                                have c21b0 : decide (x7_2 < (t171.length : Int)) = true := decide_eq_true c21
                                (try (have c21b0h := c21b0; simp only [hl4_1, hl4_2] at c21b0h))
                                clear c21
                                replace H := Option.bind_eq_some_iff.mp H
                                obtain ⟨t183, A220, H⟩ := H
                                replace H : (if t183 = true then (if x7_2 < (x4_2.length : Int) then (if x15_1 < (x4_2.length : Int) then (semigroupref02_Components.l1 k2 t171 (x4_2.set (x15_1 : Int).toNat (rd x4_2 x7_2)) x5_1 x15_1 (wrap64 (x7_2 + 1)) (y174.length : Int) x15_1) else (none)) else (none)) else (semigroupref02_Components.l1 k2 t171 x4_2 x5_1 x15_1 (wrap64 (x7_2 + 1)) (y174.length : Int) x15_1)) = some r := H
                                have A22 := Aside0.mk A220
                                clear A220
                                by_cases c23 : t183 = true
                                · subst c23
                                  have H1 : (if x7_2 < (x4_2.length : Int) then (if x15_1 < (x4_2.length : Int) then (semigroupref02_Components.l1 k2 t171 (x4_2.set (x15_1 : Int).toNat (rd x4_2 x7_2)) x5_1 x15_1 (wrap64 (x7_2 + 1)) (y174.length : Int) x15_1) else (none)) else (none)) = some r := by rw [if_pos rfl] at H; exact H
                                  clear H
                                  have H := H1
                                  clear H1
                                  by_cases c24 : x7_2 < (x4_2.length : Int)
                                  · rw [if_pos c24] at H
                                    have c24b0 : decide (x7_2 < (x4_2.length : Int)) = true := decide_eq_true c24
                                    (try (have c24b0h := c24b0; simp only [hl4_1, hl4_2] at c24b0h))
                                    clear c24
                                    by_cases c25 : x15_1 < (x4_2.length : Int)
                                    · rw [if_pos c25] at H
                                      have c25b0 : decide (x15_1 < (x4_2.length : Int)) = true := decide_eq_true c25
                                      (try (have c25b0h := c25b0; simp only [hl4_1, hl4_2] at c25b0h))
                                      clear c25
                                      obtain ⟨y185, hy185⟩ : ∃ y_ : List Int, y_ = (x4_2.set (x15_1 : Int).toNat (rd x4_2 x7_2)) := ⟨_, rfl⟩
                                      replace H : (semigroupref02_Components.l1 k2 t171 y185 x5_1 x15_1 (wrap64 (x7_2 + 1)) (y174.length : Int) x15_1) = some r := by first | (rw [hy185]; with_reducible exact H) | (have H2_ := (Option.bind_some _ _).symm.trans H; rw [hy185]; with_reducible exact H2_) | (have H2_ := (Option.bind_some _ _).symm.trans H; with_reducible exact H2_) | with_reducible exact H | (rw [hy185]; exact H) | exact H
                                      have Ny185 := Aside0.mk hy185
                                      clear hy185
                                      have H' := Aside0.mk H
                                      clear H
                                      obtain ⟨Ao27, co27, eo27⟩ := Kd.R_slice HO_3.out
                                      subst eo27
                                      have p180 : 0 ≤ (x15_1 : Int) := of_decide_eq_true (by first | (with_reducible assumption) | assumption)
                                      have q180 : x15_1 < (t171.length : Int) := of_decide_eq_true (by first | (with_reducible assumption) | assumption)
                                      obtain ⟨ad180, e180, hx180_0⟩ := Kd.at_int (Kd.R_reads' HO_3.out).2.2 x15_1 p180 q180
                                      cases e180
                                      replace p180 := eq_true p180
                                      replace q180 := eq_true q180
                                      go_wp2_with (first | ((with_reducible refine gate_callee (f := 40) rfl ?_); refine goesL_ (some 31) rfl rfl Tryd.func40 (by kernel_rfl) rfl #[.int .u64 (rd t171 x15_1), .int .i64 x7_2] rfl (by (try simp only [List.map_toArray, List.map_cons, List.map_nil]); first | done | rfl | (simp only [List.length_drop, List.length_take]; rfl)) ?_; (with_reducible refine (semigroupref02_Has.calls (rd t171 x15_1) x7_2 true _ A18.out).mono ?_); rintro e w' ⟨rfl, ⟨nd, rfl⟩⟩; refine ⟨_, rfl, ?_⟩; (try (rw [drewN_self wr]; generalize hq_ : World.drewN wr _ = wr; have n0_ : Aside0 (Kd.R (Kd.int .u64) 26 wr w.heap.size (fun _ => True) (.slice (some ad180) t171.length co27) t171) := ⟨by rw [← hq_]; exact (by (with_reducible repeat (first | apply Kd.R_alloc | apply Kd.R_drewN | apply Kd.R_drew)); exact HO_3.out)⟩; have n1_ : Aside0 (Kd.R (Kd.int .i64) 3 wr w.heap.size (fun _ => True) (.slice (some ⟨go12, 0, none⟩) x4_2.length co8) x4_2) := ⟨by rw [← hq_]; exact (by (with_reducible repeat (first | apply Kd.R_alloc | apply Kd.R_drewN | apply Kd.R_drew)); exact HO_4.out)⟩; have n2_ : Aside0 (Below w.heap.size w wr) := ⟨by rw [← hq_]; exact (by repeat (first | (with_reducible first | exact HB.out | apply below_alloc | apply pw_below_drewN | apply below_drew1) | exact HB.out))⟩; clear HO_3 HO_4 HB hq_; have HO_3 := n0_; have HO_4 := n1_; have HB := n2_; clear n0_ n1_ n2_)); have p182 : 0 ≤ (x7_2 : Int) := of_decide_eq_true (by first | (with_reducible assumption) | assumption); have q182 : x7_2 < (t171.length : Int) := of_decide_eq_true (by first | (with_reducible assumption) | assumption); obtain ⟨ad182, e182, hx182_0⟩ := Kd.at_int (Kd.R_reads' HO_3.out).2.2 x7_2 p182 q182; obtain rfl : ad180 = ad182 := (by injection e182); replace p182 := eq_true p182; replace q182 := eq_true q182) | (go_at_call 40; (with_reducible refine (semigroupref02_Has.calls (rd t171 x7_2) x15_1 true _ A22.out).mono ?_); rintro e w' ⟨rfl, ⟨nd, rfl⟩⟩; (try (rw [drewN_self wr]; generalize hq_ : World.drewN wr _ = wr; have n0_ : Aside0 (Kd.R (Kd.int .u64) 26 wr w.heap.size (fun _ => True) (.slice (some ad180) t171.length co27) t171) := ⟨by rw [← hq_]; exact (by (with_reducible repeat (first | apply Kd.R_alloc | apply Kd.R_drewN | apply Kd.R_drew)); exact HO_3.out)⟩; have n1_ : Aside0 (Kd.R (Kd.int .i64) 3 wr w.heap.size (fun _ => True) (.slice (some ⟨go12, 0, none⟩) x4_2.length co8) x4_2) := ⟨by rw [← hq_]; exact (by (with_reducible repeat (first | apply Kd.R_alloc | apply Kd.R_drewN | apply Kd.R_drew)); exact HO_4.out)⟩; have n2_ : Aside0 (Below w.heap.size w wr) := ⟨by rw [← hq_]; exact (by repeat (first | (with_reducible first | exact HB.out | apply below_alloc | apply pw_below_drewN | apply below_drew1) | exact HB.out))⟩; clear HO_3 HO_4 HB hq_; have HO_3 := n0_; have HO_4 := n1_; have HB := n2_; clear n0_ n1_ n2_)); have p184 : 0 ≤ (x7_2 : Int) := of_decide_eq_true (by first | (with_reducible assumption) | assumption); have q184 : x7_2 < (x4_2.length : Int) := of_decide_eq_true (by first | (with_reducible assumption) | assumption); obtain ⟨ad184, e184, hx184_0⟩ := Kd.at_int (Kd.R_reads' HO_4.out).2.2 x7_2 p184 q184; obtain rfl : (⟨go12, 0, none⟩ : Addr) = ad184 := (by injection e184); (first | simp only [add_plain] at hx184_0 | simp only [add_at] at hx184_0 | simp only [Addr.add, Nat.zero_add] at hx184_0 | skip); replace p184 := eq_true p184; replace q184 := eq_true q184; have p26 : 0 ≤ (x15_1 : Int) := of_decide_eq_true (by first | (with_reducible assumption) | assumption); have q26 : (x15_1 : Int) < ((x4_2.length : Int) : Int) := of_decide_eq_true (by first | (with_reducible assumption) | assumption); obtain ⟨hx26_0, hf26_0⟩ := Kd.R_celln 0 HO_4.out (x15_1 : Int) p26 q26; replace p26 := eq_true p26; replace q26 := eq_true q26; obtain ⟨hy28_, hz28_⟩ := Kd.R_celln 0 HO_4.out (x15_1 : Int) (of_decide_eq_true (by first | (with_reducible assumption) | assumption)) (of_decide_eq_true (by first | (with_reducible assumption) | assumption)); have HP28 := Kd.R_putg HO_4.out (x15_1 : Int) (rd x4_2 x7_2)) | ((with_reducible refine gate_store (t := 3) (p := 46) rfl ?_); refine store_event (t := 3) (p := 46) (v := ?vo_w29) (w1 := (wr.setCell ⟨go12, (x15_1 : Int).toNat, none⟩ (.int .i64 (rd x4_2 x7_2)))) ?hg ?ho ?hn ?hr ?_; (case ho => rfl); (case hg => rfl); (case hn => rfl); (case hr => first | (go_simp; done) | (go_simp; rfl)); intro w29 hw; have hg : wr.grownBy w29 (some go12) := (by rw [hw]; exact HP28.2); have hp_ : Kd.R (Kd.int .i64) 3 w29 w.heap.size (fun _ => True) (.slice (some ⟨go12, 0, none⟩) x4_2.length co8) y185 := (by rw [hw, Ny185.out]; exact HP28.1); clear HP28; have n0_ := Aside0.mk (Kd.R_over' (v := (.slice (some ⟨go12, 0, none⟩) x4_2.length co8)) (by (with_reducible repeat (first | apply Kd.R_alloc | apply Kd.R_drewN | apply Kd.R_drew)); exact HO_3.out) (Kd.R_typed HO_4.out) (by decide) hg); have n1_ := Aside0.mk (hp_); have n2_ := Aside0.mk ((by rw [hw]; exact below_set (HB.out) GB12.out : Below w.heap.size w w29)); clear HO_3; clear HO_4; clear HB; have HO_3 := n0_; have HO_4 := n1_; have HB := n2_; clear n0_ n1_ n2_; clear hg hw hp_))
                                      (try simp only [← hl4_2])
                                      (first | go_roundg k2 | ((simp only [add_plain] at *); go_roundg k2))
                                      case measure => have := HK1.out; have := HK2.out; omega
                                      case rel => exact ⟨(y185), (wrap64 (x7_2 + 1)), (by first | rfl | (simp; done) | (simp [*]; done)), H', ⟨by have := HK1.out; have := HK2.out; omega⟩, ⟨by (try simp only [hl4_1]); (try simp only [hl4_2]); (with_reducible repeat (first | apply Kd.R_alloc | apply Kd.R_drewN | apply Kd.R_drew)); exact HO_3.out⟩, ⟨by (try simp only [hl4_1]); (try simp only [hl4_2]); (with_reducible repeat (first | apply Kd.R_alloc | apply Kd.R_drewN | apply Kd.R_drew)); exact HO_4.out⟩, ⟨by repeat (first | (with_reducible first | exact HB.out | apply below_alloc | apply pw_below_drewN | apply below_drew1) | exact HB.out)⟩⟩
                                    · rw [if_neg c25] at H
                                      exact absurd H (by simp)
                                  · rw [if_neg c24] at H
                                    exact absurd H (by simp)
                                · replace c23 := Bool.eq_false_iff.mpr c23
                                  subst c23
                                  have H1 : (semigroupref02_Components.l1 k2 t171 x4_2 x5_1 x15_1 (wrap64 (x7_2 + 1)) (y174.length : Int) x15_1) = some r := by rw [if_neg (show ¬ (false = true) by decide)] at H; exact H
                                  clear H
                                  have H := H1
                                  clear H1
                                  have H' := Aside0.mk H
                                  clear H
                                  obtain ⟨Ao30, co30, eo30⟩ := Kd.R_slice HO_3.out
                                  subst eo30
                                  have p180 : 0 ≤ (x15_1 : Int) := of_decide_eq_true (by first | (with_reducible assumption) | assumption)
                                  have q180 : x15_1 < (t171.length : Int) := of_decide_eq_true (by first | (with_reducible assumption) | assumption)
                                  obtain ⟨ad180, e180, hx180_0⟩ := Kd.at_int (Kd.R_reads' HO_3.out).2.2 x15_1 p180 q180
                                  cases e180
                                  replace p180 := eq_true p180
                                  replace q180 := eq_true q180
                                  go_wp2_with (first | ((with_reducible refine gate_callee (f := 40) rfl ?_); refine goesL_ (some 31) rfl rfl Tryd.func40 (by kernel_rfl) rfl #[.int .u64 (rd t171 x15_1), .int .i64 x7_2] rfl (by (try simp only [List.map_toArray, List.map_cons, List.map_nil]); first | done | rfl | (simp only [List.length_drop, List.length_take]; rfl)) ?_; (with_reducible refine (semigroupref02_Has.calls (rd t171 x15_1) x7_2 true _ A18.out).mono ?_); rintro e w' ⟨rfl, ⟨nd, rfl⟩⟩; refine ⟨_, rfl, ?_⟩; have p182 : 0 ≤ (x7_2 : Int) := of_decide_eq_true (by first | (with_reducible assumption) | assumption); have q182 : x7_2 < (t171.length : Int) := of_decide_eq_true (by first | (with_reducible assumption) | assumption); obtain ⟨ad182, e182, hx182_0⟩ := Kd.at_int (Kd.R_reads' HO_3.out).2.2 x7_2 p182 q182; obtain rfl : ad180 = ad182 := (by injection e182); replace p182 := eq_true p182; replace q182 := eq_true q182) | (go_at_call 40; (with_reducible refine (semigroupref02_Has.calls (rd t171 x7_2) x15_1 false _ A22.out).mono ?_); rintro e w' ⟨rfl, ⟨nd, rfl⟩⟩))
                                  (try simp only [← hl4_2])
                                  (first | go_roundg k2 | ((simp only [add_plain] at *); go_roundg k2))
                                  case measure => have := HK1.out; have := HK2.out; omega
                                  case rel => exact ⟨(x4_2), (wrap64 (x7_2 + 1)), (by first | rfl | (simp; done) | (simp [*]; done)), H', ⟨by have := HK1.out; have := HK2.out; omega⟩, ⟨by (try simp only [hl4_1]); (try simp only [hl4_2]); (with_reducible repeat (first | apply Kd.R_alloc | apply Kd.R_drewN | apply Kd.R_drew)); exact HO_3.out⟩, ⟨by (try simp only [hl4_1]); (try simp only [hl4_2]); (with_reducible repeat (first | apply Kd.R_alloc | apply Kd.R_drewN | apply Kd.R_drew)); exact HO_4.out⟩, ⟨by repeat (first | (with_reducible first | exact HB.out | apply below_alloc | apply pw_below_drewN | apply below_drew1) | exact HB.out)⟩⟩
                              · rw [if_neg c21] at H
                                exact absurd H (by simp)
                            · rw [if_neg c20] at H
                              exact absurd H (by simp)
                          · replace c19 := Bool.eq_false_iff.mpr c19
                            subst c19
                            have H1 : (semigroupref02_Components.l1 k2 t171 x4_2 x5_1 x15_1 (wrap64 (x7_2 + 1)) (y174.length : Int) x15_1) = some r := by rw [if_neg (show ¬ (false = true) by decide)] at H; exact H
                            clear H
                            have H := H1
                            clear H1
                            have H' := Aside0.mk H
                            clear H
                            obtain ⟨Ao31, co31, eo31⟩ := Kd.R_slice HO_3.out
                            subst eo31
                            have p180 : 0 ≤ (x15_1 : Int) := of_decide_eq_true (by first | (with_reducible assumption) | assumption)
                            have q180 : x15_1 < (t171.length : Int) := of_decide_eq_true (by first | (with_reducible assumption) | assumption)
                            obtain ⟨ad180, e180, hx180_0⟩ := Kd.at_int (Kd.R_reads' HO_3.out).2.2 x15_1 p180 q180
                            cases e180
                            replace p180 := eq_true p180
                            replace q180 := eq_true q180
                            go_wp2_with (first | ((with_reducible refine gate_callee (f := 40) rfl ?_); refine goesL_ (some 31) rfl rfl Tryd.func40 (by kernel_rfl) rfl #[.int .u64 (rd t171 x15_1), .int .i64 x7_2] rfl (by (try simp only [List.map_toArray, List.map_cons, List.map_nil]); first | done | rfl | (simp only [List.length_drop, List.length_take]; rfl)) ?_; (with_reducible refine (semigroupref02_Has.calls (rd t171 x15_1) x7_2 false _ A18.out).mono ?_); rintro e w' ⟨rfl, ⟨nd, rfl⟩⟩; refine ⟨_, rfl, ?_⟩))
                            (try simp only [← hl4_2])
                            (first | go_roundg k2 | ((simp only [add_plain] at *); go_roundg k2))
                            case measure => have := HK1.out; have := HK2.out; omega
                            case rel => exact ⟨(x4_2), (wrap64 (x7_2 + 1)), (by first | rfl | (simp; done) | (simp [*]; done)), H', ⟨by have := HK1.out; have := HK2.out; omega⟩, ⟨by (try simp only [hl4_1]); (try simp only [hl4_2]); (with_reducible repeat (first | apply Kd.R_alloc | apply Kd.R_drewN | apply Kd.R_drew)); exact HO_3.out⟩, ⟨by (try simp only [hl4_1]); (try simp only [hl4_2]); (with_reducible repeat (first | apply Kd.R_alloc | apply Kd.R_drewN | apply Kd.R_drew)); exact HO_4.out⟩, ⟨by repeat (first | (with_reducible first | exact HB.out | apply below_alloc | apply pw_below_drewN | apply below_drew1) | exact HB.out)⟩⟩
                        · rw [if_neg c17] at H
                          exact absurd H (by simp)
                      · rw [if_neg c16] at H
                        exact absurd H (by simp)
                    · rw [if_neg c15] at H
                      have c15b0 : decide (x7_2 < x15_1) = false := decide_eq_false c15
                      clear c15
                      by_cases c32 : 0 ≤ x15_1
                      · rw [if_pos c32] at H
                        have c32b0 : decide (0 ≤ x15_1) = true := decide_eq_true c32
                        clear c32
                        by_cases c33 : x15_1 < (x4_2.length : Int)
                        · rw [if_pos c33] at H
                          have c33b0 : decide (x15_1 < (x4_2.length : Int)) = true := decide_eq_true c33
                          (try (have c33b0h := c33b0; simp only [hl4_1, hl4_2] at c33b0h))
                          clear c33
                          by_cases c34 : (rd x4_2 x15_1) < 0
                          · rw [if_pos c34] at H
                            have c34b0 : decide ((rd x4_2 x15_1) < 0) = true := decide_eq_true c34
                            clear c34
                            obtain ⟨y179, hy179⟩ : ∃ y_ : List Int, y_ = (x4_2.set (x15_1 : Int).toNat x5_1) := ⟨_, rfl⟩
                            replace H : (semigroupref02_Components.l0 k2 t171 y179 (wrap64 (x5_1 + 1)) (y174.length : Int) (wrap64 (x15_1 + 1))) = some r := by first | (rw [hy179]; with_reducible exact H) | (have H2_ := (Option.bind_some _ _).symm.trans H; rw [hy179]; with_reducible exact H2_) | (have H2_ := (Option.bind_some _ _).symm.trans H; with_reducible exact H2_) | with_reducible exact H | (rw [hy179]; exact H) | exact H
                            have Ny179 := Aside0.mk hy179
                            clear hy179
                            have H' := Aside0.mk H
                            clear H
                            have p178 : 0 ≤ (x15_1 : Int) := of_decide_eq_true (by first | (with_reducible assumption) | assumption)
                            have q178 : x15_1 < (x4_2.length : Int) := of_decide_eq_true (by first | (with_reducible assumption) | assumption)
                            obtain ⟨ad178, e178, hx178_0⟩ := Kd.at_int (Kd.R_reads' HO_4.out).2.2 x15_1 p178 q178
                            obtain rfl : (⟨go12, 0, none⟩ : Addr) = ad178 := (by injection e178)
                            (first | simp only [add_plain] at hx178_0 | simp only [add_at] at hx178_0 | simp only [Addr.add, Nat.zero_add] at hx178_0 | skip)
                            replace p178 := eq_true p178
                            replace q178 := eq_true q178
                            have p35 : 0 ≤ (x15_1 : Int) := of_decide_eq_true (by first | (with_reducible assumption) | assumption)
                            have q35 : (x15_1 : Int) < ((x4_2.length : Int) : Int) := of_decide_eq_true (by first | (with_reducible assumption) | assumption)
                            obtain ⟨hx35_0, hf35_0⟩ := Kd.R_celln 0 HO_4.out (x15_1 : Int) p35 q35
                            replace p35 := eq_true p35
                            replace q35 := eq_true q35
                            have HP36 := Kd.R_putg HO_4.out (x15_1 : Int) x5_1
                            go_wp2_with (first | ((with_reducible refine gate_store (t := 3) (p := 55) rfl ?_); refine store_event (t := 3) (p := 55) (v := ?vo_w37) (w1 := (wr.setCell ⟨go12, (x15_1 : Int).toNat, none⟩ (.int .i64 x5_1))) ?hg ?ho ?hn ?hr ?_; (case ho => rfl); (case hg => rfl); (case hn => rfl); (case hr => first | (go_simp; done) | (go_simp; rfl)); intro w37 hw; have hg : wr.grownBy w37 (some go12) := (by rw [hw]; exact HP36.2); have hp_ : Kd.R (Kd.int .i64) 3 w37 w.heap.size (fun _ => True) (.slice (some ⟨go12, 0, none⟩) x4_2.length co8) y179 := (by rw [hw, Ny179.out]; exact HP36.1); clear HP36; have n0_ := Aside0.mk (Kd.R_over' (v := (.slice (some ⟨go12, 0, none⟩) x4_2.length co8)) (by (with_reducible repeat (first | apply Kd.R_alloc | apply Kd.R_drewN | apply Kd.R_drew)); exact HO_3.out) (Kd.R_typed HO_4.out) (by decide) hg); have n1_ := Aside0.mk (hp_); have n2_ := Aside0.mk ((by rw [hw]; exact below_set (HB.out) GB12.out : Below w.heap.size w w37)); clear HO_3; clear HO_4; clear HB; have HO_3 := n0_; have HO_4 := n1_; have HB := n2_; clear n0_ n1_ n2_; clear hg hw hp_))
                            (try simp only [← hl4_1, ← hl4_2])
                            (first | go_roundg k2 | ((simp only [add_plain] at *); go_roundg k2))
                            case measure => have := HK1.out; have := HK2.out; omega
                            case rel => exact ⟨(y179), (wrap64 (x5_1 + 1)), (wrap64 (x15_1 + 1)), (by first | rfl | (simp; done) | (simp [*]; done)), (by first | rfl | (simp; done) | (simp [*]; done)), H', ⟨by have := HK1.out; have := HK2.out; omega⟩, ⟨by (try simp only [hl4_1]); (try simp only [hl4_2]); (with_reducible repeat (first | apply Kd.R_alloc | apply Kd.R_drewN | apply Kd.R_drew)); exact HO_3.out⟩, ⟨by (try simp only [hl4_1]); (try simp only [hl4_2]); (with_reducible repeat (first | apply Kd.R_alloc | apply Kd.R_drewN | apply Kd.R_drew)); exact HO_4.out⟩, ⟨by repeat (first | (with_reducible first | exact HB.out | apply below_alloc | apply pw_below_drewN | apply below_drew1) | exact HB.out)⟩⟩
                          · rw [if_neg c34] at H
                            have c34b0 : decide ((rd x4_2 x15_1) < 0) = false := decide_eq_false c34
                            clear c34
                            have H' := Aside0.mk H
                            clear H
                            have p178 : 0 ≤ (x15_1 : Int) := of_decide_eq_true (by first | (with_reducible assumption) | assumption)
                            have q178 : x15_1 < (x4_2.length : Int) := of_decide_eq_true (by first | (with_reducible assumption) | assumption)
                            obtain ⟨ad178, e178, hx178_0⟩ := Kd.at_int (Kd.R_reads' HO_4.out).2.2 x15_1 p178 q178
                            obtain rfl : (⟨go12, 0, none⟩ : Addr) = ad178 := (by injection e178)
                            (first | simp only [add_plain] at hx178_0 | simp only [add_at] at hx178_0 | simp only [Addr.add, Nat.zero_add] at hx178_0 | skip)
                            replace p178 := eq_true p178
                            replace q178 := eq_true q178
                            go_wp2
                            (try simp only [← hl4_1, ← hl4_2])
                            (first | go_roundg k2 | ((simp only [add_plain] at *); go_roundg k2))
                            case measure => have := HK1.out; have := HK2.out; omega
                            case rel => exact ⟨(x4_2), (x5_1), (wrap64 (x15_1 + 1)), (by first | rfl | (simp; done) | (simp [*]; done)), (by first | rfl | (simp; done) | (simp [*]; done)), H', ⟨by have := HK1.out; have := HK2.out; omega⟩, ⟨by (try simp only [hl4_1]); (try simp only [hl4_2]); (with_reducible repeat (first | apply Kd.R_alloc | apply Kd.R_drewN | apply Kd.R_drew)); exact HO_3.out⟩, ⟨by (try simp only [hl4_1]); (try simp only [hl4_2]); (with_reducible repeat (first | apply Kd.R_alloc | apply Kd.R_drewN | apply Kd.R_drew)); exact HO_4.out⟩, ⟨by repeat (first | (with_reducible first | exact HB.out | apply below_alloc | apply pw_below_drewN | apply below_drew1) | exact HB.out)⟩⟩
                        · rw [if_neg c33] at H
                          exact absurd H (by simp)
                      · rw [if_neg c32] at H
                        exact absurd H (by simp)
              · rw [if_neg c11] at H
                exact absurd H (by simp)
            · rw [if_neg c10] at H
              exact absurd H (by simp)
          · rw [if_neg c9] at H
            have c9b0 : decide (x15_1 < (y174.length : Int)) = false := decide_eq_false c9
            (try (have c9b0h := c9b0; simp only [hl4_1] at c9b0h))
            clear c9
            obtain rfl := Option.some.inj H
            go_wp2
            go_ret
            exact ⟨_, by first | rfl | (simp [errW_none, errW_some] <;> rfl) | (simp [*, errW_none, errW_some] <;> rfl), by (with_reducible repeat (first | apply Kd.R_alloc | apply Kd.R_drewN | apply Kd.R_drew)); exact HO_4.out, by repeat (first | (with_reducible first | exact HB.out | apply below_alloc | apply pw_below_drewN | apply below_drew1) | exact HB.out)⟩
    · rw [if_neg c4] at H
      exact absurd H (by simp)
  · rw [if_neg c3] at H
    exact absurd H (by simp)

end Go.Proofs.YtndpeoladndepaaDoor.PRelationComponents
