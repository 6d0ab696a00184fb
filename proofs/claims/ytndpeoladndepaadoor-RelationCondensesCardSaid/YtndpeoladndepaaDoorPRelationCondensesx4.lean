-- Laid by a program of this session.
import Derived.Test.YtndpeoladndepaaDoorPRelationCondensesx0
import Derived.Test.YtndpeoladndepaaDoorPRelationCondensesx1
import Derived.Test.YtndpeoladndepaaDoorPRelationCondensesx2
import Derived.Test.YtndpeoladndepaaDoorPRelationCondensesxExt
namespace Go.Proofs.YtndpeoladndepaaDoor.PRelationCondenses
open Go.RowKit Go.Proofs.YtndpeoladndepaaDoorW.PrintWords Go.Proofs.YtndpeoladndepaaDoorW.PrintLast Go.Proofs.YtndpeoladndepaaDoorW.PrintMore
attribute [local go_sem] max2_int min2_int max_two min_two max_three min_three max_four min_four   -- for this text's walks alone
set_option linter.unusedVariables false
set_option linter.unusedSimpArgs false

/-! ### relation_Identity: function 30 -/
mutual
def relation_Identity.j0 : Nat → Int → Bool → Option (List Int)
  | 0, _, _ => none
  | k + 1, x0, x10 => if x10 = true then (some ([] : List Int)) else (if 0 ≤ x0 then (if (x0 : Int).toNat ≤ 35184372088832 then (relation_Identity.l0 k (List.replicate (x0 : Int).toNat 0) x0 0) else (none)) else (none))
def relation_Identity.l0 : Nat → List Int → Int → Int → Option (List Int)
  | 0, _, _, _ => none
  | k + 1, x3, x13, x14 => if x14 < x13 then (if 0 ≤ (IntKind.u64.wrap (x14)) then (if 0 ≤ x14 then (if x14 < (x3.length : Int) then (relation_Identity.l0 k (x3.set (x14 : Int).toNat (shl .u64 1 (IntKind.u64.wrap (x14)))) x13 (wrap64 (x14 + 1))) else (none)) else (none)) else (none)) else (some x3)
end
def relation_Identity.f (k : Nat) (a0 : Int) : Option (List Int) := if a0 < 0 then (relation_Identity.j0 k a0 true) else (relation_Identity.j0 k a0 (decide (a0 > 64)))
theorem relation_Identity.mono_l : ∀ k, (∀ y0 y1, LeO (relation_Identity.j0 k y0 y1) (relation_Identity.j0 (k + 1) y0 y1)) ∧ (∀ y0 y1 y2, LeO (relation_Identity.l0 k y0 y1 y2) (relation_Identity.l0 (k + 1) y0 y1 y2))
  | 0 => ⟨fun _ _ r h => by simp [relation_Identity.j0] at h, fun _ _ _ r h => by simp [relation_Identity.l0] at h⟩
  | k + 1 => by
    obtain ⟨ih0, ih1⟩ := relation_Identity.mono_l k
    refine ⟨?_, ?_⟩
    · intro y0 y1
      unfold relation_Identity.j0
      repeat' first
      | (with_reducible exact ih0 _ _)
      | (with_reducible exact ih1 _ _ _)
      | (with_reducible exact LeO.refl _)
      | (with_reducible exact LeO.none _)
      | (with_reducible refine LeO.ite ?_ ?_)
      | (with_reducible refine LeO.bind ?_ (fun _ => ?_))
      | exact ih0 _ _
      | exact ih1 _ _ _
      | exact LeO.none _
      | refine LeO.ite ?_ ?_
      | refine LeO.bind ?_ (fun _ => ?_)
    · intro y0 y1 y2
      unfold relation_Identity.l0
      repeat' first
      | (with_reducible exact ih0 _ _)
      | (with_reducible exact ih1 _ _ _)
      | (with_reducible exact LeO.refl _)
      | (with_reducible exact LeO.none _)
      | (with_reducible refine LeO.ite ?_ ?_)
      | (with_reducible refine LeO.bind ?_ (fun _ => ?_))
      | exact ih0 _ _
      | exact ih1 _ _ _
      | exact LeO.none _
      | refine LeO.ite ?_ ?_
      | refine LeO.bind ?_ (fun _ => ?_)
theorem relation_Identity.mono : ∀ a0 k, LeO (relation_Identity.f k a0) (relation_Identity.f (k + 1) a0) := by
  intro a0 k
  obtain ⟨ih0, ih1⟩ := relation_Identity.mono_l k
  unfold relation_Identity.f
  repeat' first
      | (with_reducible exact ih0 _ _)
      | (with_reducible exact ih1 _ _ _)
      | (with_reducible exact LeO.refl _)
      | (with_reducible exact LeO.none _)
      | (with_reducible refine LeO.ite ?_ ?_)
      | (with_reducible refine LeO.bind ?_ (fun _ => ?_))
      | exact ih0 _ _
      | exact ih1 _ _ _
      | exact LeO.none _
      | refine LeO.ite ?_ ?_
      | refine LeO.bind ?_ (fun _ => ?_)
set_option maxHeartbeats 8000000 in
set_option maxRecDepth 100000 in
theorem relation_Identity.calls (k : Nat) (a0 : Int) (r : List Int) (w : World) (h : relation_Identity.f k a0 = some r) :
    Calls Tryd.prog 30 #[.int .i64 a0] w fun e w' => ∃ v0_ : Value, e = .returned (v0_) ∧ Kd.R (Kd.int .u64) 26 w' w.heap.size (fun _ => True) v0_ r ∧ Below w.heap.size w w' := by
  have HB := Aside0.mk (Below.refl w.heap.size w)
  have H : (if a0 < 0 then (relation_Identity.j0 k a0 true) else (relation_Identity.j0 k a0 (decide (a0 > 64)))) = some r := h
  clear h
  have HC2 := Aside0.mk H
  clear H
  go_enter Tryd.func30, Tryd.ntmps30
  go_upto_region 1 with (fail)
  go_cut [10] (fun v10 wc => ∃ (kq : Nat) (x10_1 : Bool), v10 = .bool x10_1 ∧ Aside0 (relation_Identity.j0 kq a0 x10_1 = some r) ∧ Aside0 (kq ≤ k) ∧ Aside0 (Below w.heap.size w wc))
  case first =>
    have H := HC2.out
    clear HC2
    by_cases c3 : a0 < 0
    · rw [if_pos c3] at H
      have c3b0 : decide (a0 < 0) = true := decide_eq_true c3
      clear c3
      (first | rw [c3b0] | (simp only [i64_w, i32_w]; rw [c3b0]) | skip)
      have H' := Aside0.mk H
      clear H
      go_wp2
      go_meet
      case rel => exact ⟨_, (true), (by first | rfl | (simp; done) | (simp [*]; done)), H', ⟨by first | omega | exact Nat.le_refl _⟩, ⟨by repeat (first | (with_reducible first | exact HB.out | apply below_alloc | apply pw_below_drewN | apply below_drew1) | exact HB.out)⟩⟩
    · rw [if_neg c3] at H
      have c3b0 : decide (a0 < 0) = false := decide_eq_false c3
      clear c3
      (first | rw [c3b0] | (simp only [i64_w, i32_w]; rw [c3b0]) | skip)
      have H' := Aside0.mk H
      clear H
      go_wp2
      go_meet
      case rel => exact ⟨_, (decide (a0 > 64)), (by first | rfl | (simp; done) | (simp [*]; done)), H', ⟨by first | omega | exact Nat.le_refl _⟩, ⟨by repeat (first | (with_reducible first | exact HB.out | apply below_alloc | apply pw_below_drewN | apply below_drew1) | exact HB.out)⟩⟩
  case rest =>
    clear HC2
    try clear p2
    try clear c3
    try clear c3b0
    obtain ⟨kq, x10_1, rfl, HA, HJ1, HB⟩ := hcut
    cases kq with
    | zero => exact absurd HA.out (by simp [relation_Identity.j0])
    | succ kj1 =>
      have H := HA.out
      clear HA
      simp only [relation_Identity.j0] at H
      by_cases c4 : x10_1 = true
      · subst c4
        have H1 : (some ([] : List Int)) = some r := by rw [if_pos rfl] at H; exact H
        clear H
        have H := H1
        clear H1
        obtain rfl := Option.some.inj H
        go_wp2
        go_ret
        exact ⟨_, by first | rfl | (simp [errW_none, errW_some] <;> rfl) | (simp [*, errW_none, errW_some] <;> rfl), by first | exact Kd.R_nil _ _ _ _ _ | exact Kd.N_nil _ _ _ _ _ | exact Kd.V_nil _ _ _ _ _ | exact Kd.Q_nil _ _ _ _ _ | exact Kd.S_nil _ _ _ _ _, by repeat (first | (with_reducible first | exact HB.out | apply below_alloc | apply pw_below_drewN | apply below_drew1) | exact HB.out)⟩
      · replace c4 := Bool.eq_false_iff.mpr c4
        subst c4
        have H1 : (if 0 ≤ a0 then (if (a0 : Int).toNat ≤ 35184372088832 then (relation_Identity.l0 kj1 (List.replicate (a0 : Int).toNat 0) a0 0) else (none)) else (none)) = some r := by rw [if_neg (show ¬ (false = true) by decide)] at H; exact H
        clear H
        have H := H1
        clear H1
        by_cases c5 : 0 ≤ a0
        · rw [if_pos c5] at H
          have c5b0 := eq_true c5
          have c5b1 : decide (0 ≤ a0) = true := decide_eq_true c5
          clear c5
          by_cases c6 : (a0 : Int).toNat ≤ 35184372088832
          · rw [if_pos c6] at H
            have c6b0 := eq_true c6
            have c6b1 : decide ((a0 : Int).toNat ≤ 35184372088832) = true := decide_eq_true c6
            clear c6
            obtain ⟨y145, hy145⟩ : ∃ y_ : List Int, y_ = (List.replicate (a0 : Int).toNat 0) := ⟨_, rfl⟩
            replace H : (relation_Identity.l0 kj1 y145 a0 0) = some r := by first | (rw [hy145]; with_reducible exact H) | (have H2_ := (Option.bind_some _ _).symm.trans H; rw [hy145]; with_reducible exact H2_) | (have H2_ := (Option.bind_some _ _).symm.trans H; with_reducible exact H2_) | with_reducible exact H | (rw [hy145]; exact H) | exact H
            have Ny145 := Aside0.mk hy145
            clear hy145
            have H' := Aside0.mk H
            clear H
            go_wp2_with (first | ((with_reducible refine gate_dst (N := 12) rfl ?_); refine Kd.R_make (Kd.int .u64) _ 26 rfl (N := 12) rfl 22 _ _ rfl a0 rfl rfl Tryd.underlying22 (.int .u64 0) 8 info26 rfl (by decide) (by omega) 0 (ok := fun _ => True) (okp := fun _ => True) rfl (fun _ hk => hk) trivial (of_decide_eq_true (by first | (with_reducible assumption) | assumption)) (Nat.le_trans (Nat.mul_le_mul_right _ (of_decide_eq_true (by first | (with_reducible assumption) | assumption) : a0.toNat ≤ 35184372088832)) (by omega)) (Below.refl _ _) (Nat.le_refl _) ?_; intro v146 w7 ho8 hb hg_ hnew_; clear hg_ hnew_; (first | rw [← Ny145.out] at ho8 | (simp only [Int.reduceToNat] at ho8; rw [← Ny145.out] at ho8)); have n0_ := Aside0.mk (Kd.R_lower ho8 (below_size (by repeat (first | (with_reducible first | exact HB.out | apply below_alloc | apply pw_below_drewN | apply below_drew1) | exact HB.out)))); have n1_ := Aside0.mk (below_step (by repeat (first | (with_reducible first | exact HB.out | apply below_alloc | apply pw_below_drewN | apply below_drew1) | exact HB.out)) hb); clear HB; have HO147 := n0_; have HB := n1_; clear n0_ n1_; clear hb ho8))
            go_loopg [14] kj1 (fun kq v14 w' => ∃ (x3_2 : List Int) (x14_2 : Int), v14 = .int .i64 x14_2 ∧ Aside0 (relation_Identity.l0 kq x3_2 a0 x14_2 = some r) ∧ Aside0 (kq ≤ kj1) ∧ Aside0 (Kd.R (Kd.int .u64) 26 w' w.heap.size (fun _ => True) v146 x3_2) ∧ Aside0 (Below w.heap.size w w'))
            case atStart => exact ⟨(y145), (0), (by first | rfl | (simp; done) | (simp [*]; done)), H', ⟨Nat.le_refl _⟩, ⟨by (with_reducible repeat (first | apply Kd.R_alloc | apply Kd.R_drewN | apply Kd.R_drew)); exact HO147.out⟩, ⟨by repeat (first | (with_reducible first | exact HB.out | apply below_alloc | apply pw_below_drewN | apply below_drew1) | exact HB.out)⟩⟩
            case round =>
              clear H'
              try clear p2
              try clear c3
              try clear c3b0
              try clear c4
              try clear c5
              try clear c5b0
              try clear c5b1
              try clear c6
              try clear c6b0
              try clear c6b1
              try clear p2
              obtain ⟨x3_2, x14_2, rfl, HA, HK2, HO_3, HB⟩ := hrel
              cases gk with
              | zero => exact absurd HA.out (by simp [relation_Identity.l0])
              | succ k2 =>
                have H := HA.out
                clear HA
                simp only [relation_Identity.l0] at H
                by_cases c9 : x14_2 < a0
                · rw [if_pos c9] at H
                  have c9b0 : decide (x14_2 < a0) = true := decide_eq_true c9
                  clear c9
                  obtain ⟨ji10, hji10⟩ : ∃ j_ : Int, (IntKind.u64.wrap (x14_2)) = j_ := ⟨_, rfl⟩
                  replace H : (if 0 ≤ (ji10) then (if 0 ≤ x14_2 then (if x14_2 < (x3_2.length : Int) then (relation_Identity.l0 k2 (x3_2.set (x14_2 : Int).toNat (shl .u64 1 (ji10))) a0 (wrap64 (x14_2 + 1))) else (none)) else (none)) else (none)) = some r := by first | (rw [hji10] at H; exact H) | (simp only [hji10] at H ⊢; exact H)
                  by_cases c11 : 0 ≤ (ji10)
                  · rw [if_pos c11] at H
                    have c11b0 := eq_true c11
                    have c11b1 : decide (0 ≤ (ji10)) = true := decide_eq_true c11
                    clear c11
                    obtain ⟨ji12, hji12⟩ : ∃ j_ : Int, (shl .u64 1 (ji10)) = j_ := ⟨_, rfl⟩
                    replace H : (if 0 ≤ x14_2 then (if x14_2 < (x3_2.length : Int) then (relation_Identity.l0 k2 (x3_2.set (x14_2 : Int).toNat (ji12)) a0 (wrap64 (x14_2 + 1))) else (none)) else (none)) = some r := by first | (rw [hji12] at H; exact H) | (simp only [hji12] at H ⊢; exact H)
                    have hji12_ : (IntKind.u64.wrap (1 * 2 ^ min (ji10).toNat 64)) = ji12 := hji12
                    have hji12z : (ji10) ≤ 64 → (IntKind.u64.wrap (1 * 2 ^ (ji10).toNat)) = ji12 := shl_small hji12
                    have hji12u : (IntKind.u64.wrap (2 ^ min (ji10).toNat 64)) = ji12 := by have h_ := hji12_; rw [Int.one_mul] at h_; exact h_
                    have hji12v : (ji10) ≤ 64 → (IntKind.u64.wrap (2 ^ (ji10).toNat)) = ji12 := fun hle_ => by have h_ := hji12z hle_; rw [Int.one_mul] at h_; exact h_
                    by_cases c13 : 0 ≤ x14_2
                    · rw [if_pos c13] at H
                      have c13b0 : decide (0 ≤ x14_2) = true := decide_eq_true c13
                      clear c13
                      by_cases c14 : x14_2 < (x3_2.length : Int)
                      · rw [if_pos c14] at H
                        have c14b0 : decide (x14_2 < (x3_2.length : Int)) = true := decide_eq_true c14
                        clear c14
                        obtain ⟨y148, hy148⟩ : ∃ y_ : List Int, y_ = (x3_2.set (x14_2 : Int).toNat (ji12)) := ⟨_, rfl⟩
                        replace H : (relation_Identity.l0 k2 y148 a0 (wrap64 (x14_2 + 1))) = some r := by first | (rw [hy148]; with_reducible exact H) | (have H2_ := (Option.bind_some _ _).symm.trans H; rw [hy148]; with_reducible exact H2_) | (have H2_ := (Option.bind_some _ _).symm.trans H; with_reducible exact H2_) | with_reducible exact H | (rw [hy148]; exact H) | exact H
                        have Ny148 := Aside0.mk hy148
                        clear hy148
                        have H' := Aside0.mk H
                        clear H
                        have p15 : 0 ≤ (x14_2 : Int) := of_decide_eq_true (by first | (with_reducible assumption) | assumption)
                        have q15 : (x14_2 : Int) < ((x3_2.length : Int) : Int) := of_decide_eq_true (by first | (with_reducible assumption) | assumption)
                        obtain ⟨go15, co15, eo15, gb15, gl15, cl15, HG15⟩ := Kd.R_form HO_3.out (by omega)
                        (first | cases eo15 | (injection eo15 with ea_ en_ ec_; (first | subst ea_ | (injection ea_ with ea_; subst ea_)); subst ec_; clear en_))
                        have GB15 := Aside0.mk gb15
                        have GG15 := Aside0.mk HG15
                        clear gb15 gl15 HG15
                        obtain ⟨hx15_0, hf15_0⟩ := Kd.R_celln 0 HO_3.out (x14_2 : Int) p15 q15
                        replace p15 := eq_true p15
                        replace q15 := eq_true q15
                        have HP16 := Kd.R_putg HO_3.out (x14_2 : Int) ji12
                        go_wp2_with (first | ((with_reducible refine gate_store (t := 26) (p := 22) rfl ?_); refine store_event (t := 26) (p := 22) (v := ?vo_w17) (w1 := (wr.setCell ⟨go15, (x14_2 : Int).toNat, none⟩ (.int .u64 ji12))) ?hg ?ho ?hn ?hr ?_; (case ho => rfl); (case hg => rfl); (case hn => rfl); (case hr => first | (go_simp; done) | (go_simp; rfl)); intro w17 hw; have hg : wr.grownBy w17 (some go15) := (by rw [hw]; exact HP16.2); have hp_ : Kd.R (Kd.int .u64) 26 w17 w.heap.size (fun _ => True) (.slice (some ⟨go15, 0, none⟩) x3_2.length co15) y148 := (by rw [hw, Ny148.out]; exact HP16.1); clear HP16; have n0_ := Aside0.mk (hp_); have n1_ := Aside0.mk ((by rw [hw]; exact below_set (HB.out) GB15.out : Below w.heap.size w w17)); clear HO_3; clear HB; have HO_3 := n0_; have HB := n1_; clear n0_ n1_; clear hg hw hp_))
                        (first | go_roundg k2 | ((simp only [add_plain] at *); go_roundg k2))
                        case measure => have := HJ1.out; have := HK2.out; omega
                        case rel => exact ⟨(y148), (wrap64 (x14_2 + 1)), (by first | rfl | (simp; done) | (simp [*]; done)), H', ⟨by have := HJ1.out; have := HK2.out; omega⟩, ⟨by (with_reducible repeat (first | apply Kd.R_alloc | apply Kd.R_drewN | apply Kd.R_drew)); exact HO_3.out⟩, ⟨by repeat (first | (with_reducible first | exact HB.out | apply below_alloc | apply pw_below_drewN | apply below_drew1) | exact HB.out)⟩⟩
                      · rw [if_neg c14] at H
                        exact absurd H (by simp)
                    · rw [if_neg c13] at H
                      exact absurd H (by simp)
                  · rw [if_neg c11] at H
                    exact absurd H (by simp)
                · rw [if_neg c9] at H
                  have c9b0 : decide (x14_2 < a0) = false := decide_eq_false c9
                  clear c9
                  obtain rfl := Option.some.inj H
                  go_wp2
                  go_ret
                  exact ⟨_, by first | rfl | (simp [errW_none, errW_some] <;> rfl) | (simp [*, errW_none, errW_some] <;> rfl), by (with_reducible repeat (first | apply Kd.R_alloc | apply Kd.R_drewN | apply Kd.R_drew)); exact HO_3.out, by repeat (first | (with_reducible first | exact HB.out | apply below_alloc | apply pw_below_drewN | apply below_drew1) | exact HB.out)⟩
          · rw [if_neg c6] at H
            exact absurd H (by simp)
        · rw [if_neg c5] at H
          exact absurd H (by simp)

/-! ### relation_Components: function 33 -/
mutual
def relation_Components.l0 : Nat → List Int → List Int → Int → Int → Option (List Int)
  | 0, _, _, _, _ => none
  | k + 1, x3, x4, x18, x19 => if x19 < x18 then (if 0 ≤ x19 then (if x19 < (x4.length : Int) then (relation_Components.l0 k x3 (x4.set (x19 : Int).toNat (-1)) x18 (wrap64 (x19 + 1))) else (none)) else (none)) else (relation_Components.l1 k x3 x4 0 (x4.length : Int) 0)
def relation_Components.l1 : Nat → List Int → List Int → Int → Int → Int → Option (List Int)
  | 0, _, _, _, _, _ => none
  | k + 1, x3, x4, x6, x27, x28 => if x28 < x27 then (if 0 ≤ x28 then (if x28 < (x4.length : Int) then (if (rd x4 x28) ≥ 0 then (relation_Components.l1 k x3 x4 x6 x27 (wrap64 (x28 + 1))) else (relation_Components.l2 k x3 x4 x6 x28 x28 x27 x28)) else (none)) else (none)) else (some x4)
def relation_Components.l2 : Nat → List Int → List Int → Int → Int → Int → Int → Int → Option (List Int)
  | 0, _, _, _, _, _, _, _ => none
  | k + 1, x3, x4, x6, x7, x8, x27, x28 => if x8 < (x4.length : Int) then (if 0 ≤ x7 then (if x7 < (x3.length : Int) then (if 0 ≤ (IntKind.u64.wrap (x8)) then (if (Go.bits .and .u64 (shr .u64 (rd x3 x7) (IntKind.u64.wrap (x8))) 1) = 1 then (if 0 ≤ x8 then (if x8 < (x3.length : Int) then (if 0 ≤ (IntKind.u64.wrap (x7)) then (if (Go.bits .and .u64 (shr .u64 (rd x3 x8) (IntKind.u64.wrap (x7))) 1) = 1 then (relation_Components.l2 k x3 (x4.set (x8 : Int).toNat x6) x6 x7 (wrap64 (x8 + 1)) x27 x28) else (relation_Components.l2 k x3 x4 x6 x7 (wrap64 (x8 + 1)) x27 x28)) else (none)) else (none)) else (none)) else (relation_Components.l2 k x3 x4 x6 x7 (wrap64 (x8 + 1)) x27 x28)) else (none)) else (none)) else (none)) else (relation_Components.l1 k x3 x4 (wrap64 (x6 + 1)) x27 (wrap64 (x28 + 1)))
end
def relation_Components.f (k : Nat) (l0 : List Int) : Option (List Int) := (relation_Valid.f k l0).bind fun t149 => (if t149 = true then ((relation_Closure.f k l0).bind fun t150 => (if 0 ≤ (l0.length : Int) then (if ((l0.length : Int) : Int).toNat ≤ 35184372088832 then ((some (List.replicate ((l0.length : Int) : Int).toNat 0 : List Int)).bind fun y153 => (relation_Components.l0 k t150 y153 (y153.length : Int) 0)) else (none)) else (none))) else (some ([] : List Int)))
theorem relation_Components.mono_l : ∀ k, (∀ y0 y1 y2 y3, LeO (relation_Components.l0 k y0 y1 y2 y3) (relation_Components.l0 (k + 1) y0 y1 y2 y3)) ∧ (∀ y0 y1 y2 y3 y4, LeO (relation_Components.l1 k y0 y1 y2 y3 y4) (relation_Components.l1 (k + 1) y0 y1 y2 y3 y4)) ∧ (∀ y0 y1 y2 y3 y4 y5 y6, LeO (relation_Components.l2 k y0 y1 y2 y3 y4 y5 y6) (relation_Components.l2 (k + 1) y0 y1 y2 y3 y4 y5 y6))
  | 0 => ⟨fun _ _ _ _ r h => by simp [relation_Components.l0] at h, fun _ _ _ _ _ r h => by simp [relation_Components.l1] at h, fun _ _ _ _ _ _ _ r h => by simp [relation_Components.l2] at h⟩
  | k + 1 => by
    obtain ⟨ih0, ih1, ih2⟩ := relation_Components.mono_l k
    refine ⟨?_, ?_, ?_⟩
    · intro y0 y1 y2 y3
      unfold relation_Components.l0
      repeat' first
      | (with_reducible exact ih0 _ _ _ _)
      | (with_reducible exact ih1 _ _ _ _ _)
      | (with_reducible exact ih2 _ _ _ _ _ _ _)
      | (with_reducible exact relation_Closure.mono _ _)
      | (with_reducible exact relation_Valid.mono _ _)
      | (with_reducible exact LeO.refl _)
      | (with_reducible exact LeO.none _)
      | (with_reducible refine LeO.ite ?_ ?_)
      | (with_reducible refine LeO.bind ?_ (fun _ => ?_))
      | exact ih0 _ _ _ _
      | exact ih1 _ _ _ _ _
      | exact ih2 _ _ _ _ _ _ _
      | exact relation_Closure.mono _ _
      | exact relation_Valid.mono _ _
      | exact LeO.none _
      | refine LeO.ite ?_ ?_
      | refine LeO.bind ?_ (fun _ => ?_)
    · intro y0 y1 y2 y3 y4
      unfold relation_Components.l1
      repeat' first
      | (with_reducible exact ih0 _ _ _ _)
      | (with_reducible exact ih1 _ _ _ _ _)
      | (with_reducible exact ih2 _ _ _ _ _ _ _)
      | (with_reducible exact relation_Closure.mono _ _)
      | (with_reducible exact relation_Valid.mono _ _)
      | (with_reducible exact LeO.refl _)
      | (with_reducible exact LeO.none _)
      | (with_reducible refine LeO.ite ?_ ?_)
      | (with_reducible refine LeO.bind ?_ (fun _ => ?_))
      | exact ih0 _ _ _ _
      | exact ih1 _ _ _ _ _
      | exact ih2 _ _ _ _ _ _ _
      | exact relation_Closure.mono _ _
      | exact relation_Valid.mono _ _
      | exact LeO.none _
      | refine LeO.ite ?_ ?_
      | refine LeO.bind ?_ (fun _ => ?_)
    · intro y0 y1 y2 y3 y4 y5 y6
      unfold relation_Components.l2
      repeat' first
      | (with_reducible exact ih0 _ _ _ _)
      | (with_reducible exact ih1 _ _ _ _ _)
      | (with_reducible exact ih2 _ _ _ _ _ _ _)
      | (with_reducible exact relation_Closure.mono _ _)
      | (with_reducible exact relation_Valid.mono _ _)
      | (with_reducible exact LeO.refl _)
      | (with_reducible exact LeO.none _)
      | (with_reducible refine LeO.ite ?_ ?_)
      | (with_reducible refine LeO.bind ?_ (fun _ => ?_))
      | exact ih0 _ _ _ _
      | exact ih1 _ _ _ _ _
      | exact ih2 _ _ _ _ _ _ _
      | exact relation_Closure.mono _ _
      | exact relation_Valid.mono _ _
      | exact LeO.none _
      | refine LeO.ite ?_ ?_
      | refine LeO.bind ?_ (fun _ => ?_)
theorem relation_Components.mono : ∀ a0 k, LeO (relation_Components.f k a0) (relation_Components.f (k + 1) a0) := by
  intro a0 k
  obtain ⟨ih0, ih1, ih2⟩ := relation_Components.mono_l k
  unfold relation_Components.f
  repeat' first
      | (with_reducible exact ih0 _ _ _ _)
      | (with_reducible exact ih1 _ _ _ _ _)
      | (with_reducible exact ih2 _ _ _ _ _ _ _)
      | (with_reducible exact relation_Closure.mono _ _)
      | (with_reducible exact relation_Valid.mono _ _)
      | (with_reducible exact LeO.refl _)
      | (with_reducible exact LeO.none _)
      | (with_reducible refine LeO.ite ?_ ?_)
      | (with_reducible refine LeO.bind ?_ (fun _ => ?_))
      | exact ih0 _ _ _ _
      | exact ih1 _ _ _ _ _
      | exact ih2 _ _ _ _ _ _ _
      | exact relation_Closure.mono _ _
      | exact relation_Valid.mono _ _
      | exact LeO.none _
      | refine LeO.ite ?_ ?_
      | refine LeO.bind ?_ (fun _ => ?_)
set_option maxHeartbeats 8000000 in
set_option maxRecDepth 100000 in
theorem relation_Components.calls (k : Nat) (A0 : Option Addr) (c0 : Nat) (l0 : List Int) (r : List Int) (w : World) (hr0 : Kd.C (Kd.int .u64) w A0 l0.length l0) (hc0 : l0.length ≤ c0) (h : relation_Components.f k l0 = some r) :
    Calls Tryd.prog 33 #[.slice A0 l0.length c0] w fun e w' => ∃ v0_ : Value, e = .returned (v0_) ∧ Kd.R (Kd.int .i64) 3 w' w.heap.size (fun _ => True) v0_ r ∧ Below w.heap.size w w' := by
  have HR0 := Aside0.mk hr0
  have HC0 := Aside0.mk hc0
  clear hr0 hc0
  have HB := Aside0.mk (Below.refl w.heap.size w)
  have H : ((relation_Valid.f k l0).bind fun t149 => (if t149 = true then ((relation_Closure.f k l0).bind fun t150 => (if 0 ≤ (l0.length : Int) then (if ((l0.length : Int) : Int).toNat ≤ 35184372088832 then ((some (List.replicate ((l0.length : Int) : Int).toNat 0 : List Int)).bind fun y153 => (relation_Components.l0 k t150 y153 (y153.length : Int) 0)) else (none)) else (none))) else (some ([] : List Int)))) = some r := h
  clear h
  replace H := Option.bind_eq_some_iff.mp H
  obtain ⟨t149, A20, H⟩ := H
  replace H : (if t149 = true then ((relation_Closure.f k l0).bind fun t150 => (if 0 ≤ (l0.length : Int) then (if ((l0.length : Int) : Int).toNat ≤ 35184372088832 then ((some (List.replicate ((l0.length : Int) : Int).toNat 0 : List Int)).bind fun y153 => (relation_Components.l0 k t150 y153 (y153.length : Int) 0)) else (none)) else (none))) else (some ([] : List Int))) = some r := H
  have A2 := Aside0.mk A20
  clear A20
  by_cases c3 : t149 = true
  · subst c3
    have H1 : ((relation_Closure.f k l0).bind fun t150 => (if 0 ≤ (l0.length : Int) then (if ((l0.length : Int) : Int).toNat ≤ 35184372088832 then ((some (List.replicate ((l0.length : Int) : Int).toNat 0 : List Int)).bind fun y153 => (relation_Components.l0 k t150 y153 (y153.length : Int) 0)) else (none)) else (none))) = some r := by rw [if_pos rfl] at H; exact H
    clear H
    have H := H1
    clear H1
    replace H := Option.bind_eq_some_iff.mp H
    obtain ⟨t150, A40, H⟩ := H
    replace H : (if 0 ≤ (l0.length : Int) then (if ((l0.length : Int) : Int).toNat ≤ 35184372088832 then ((some (List.replicate ((l0.length : Int) : Int).toNat 0 : List Int)).bind fun y153 => (relation_Components.l0 k t150 y153 (y153.length : Int) 0)) else (none)) else (none)) = some r := H
    have A4 := Aside0.mk A40
    clear A40
    by_cases c5 : 0 ≤ (l0.length : Int)
    · rw [if_pos c5] at H
      have c5b0 := eq_true c5
      have c5b1 : decide (0 ≤ (l0.length : Int)) = true := decide_eq_true c5
      clear c5
      by_cases c6 : ((l0.length : Int) : Int).toNat ≤ 35184372088832
      · rw [if_pos c6] at H
        have c6b0 := eq_true c6
        have c6b1 : decide (((l0.length : Int) : Int).toNat ≤ 35184372088832) = true := decide_eq_true c6
        clear c6
        obtain ⟨y153, hy153⟩ : ∃ y_ : List Int, y_ = (List.replicate ((l0.length : Int) : Int).toNat 0) := ⟨_, rfl⟩
        replace H : (relation_Components.l0 k t150 y153 (y153.length : Int) 0) = some r := by first | (rw [hy153]; with_reducible exact H) | (have H2_ := (Option.bind_some _ _).symm.trans H; rw [hy153]; with_reducible exact H2_) | (have H2_ := (Option.bind_some _ _).symm.trans H; with_reducible exact H2_) | with_reducible exact H | (rw [hy153]; exact H) | exact H
        have Ny153 := Aside0.mk hy153
        clear hy153
        have H' := Aside0.mk H
        clear H
        go_enter Tryd.func33, Tryd.ntmps33
        go_wp2_with (first | ((with_reducible refine gate_callee (f := 37) rfl ?_); refine goesL_ (some 10) rfl rfl Tryd.func37 (by kernel_rfl) rfl #[.slice A0 l0.length c0] rfl (by (try simp only [List.map_toArray, List.map_cons, List.map_nil]); first | done | rfl | (simp only [List.length_drop, List.length_take]; rfl)) ?_; (with_reducible refine (relation_Valid.calls k _ _ l0 true _ ?side1 ?side2 A2.out).mono ?_); (case side1 => repeat (first | exact HR0.out | (with_reducible refine Kd.C_alloc ?_ _) | (with_reducible refine Kd.C_drewN ?_ _) | (with_reducible refine Kd.C_drew ?_))); (case side2 => exact HC0.out); rintro e w' ⟨rfl, ⟨nd, rfl⟩⟩; refine ⟨_, rfl, ?_⟩) | ((with_reducible refine gate_callee (f := 29) rfl ?_); (fail_if_success (have chk_ := HO152)); refine goesL_ (some 13) rfl rfl Tryd.func29 (by kernel_rfl) rfl #[.slice A0 l0.length c0] rfl (by (try simp only [List.map_toArray, List.map_cons, List.map_nil]); first | done | rfl | (simp only [List.length_drop, List.length_take]; rfl)) ?_; (with_reducible refine (relation_Closure.calls k _ _ l0 t150 _ ?side1 ?side2 A4.out).mono ?_); (case side1 => repeat (first | exact HR0.out | (with_reducible refine Kd.C_alloc ?_ _) | (with_reducible refine Kd.C_drewN ?_ _) | (with_reducible refine Kd.C_drew ?_))); (case side2 => exact HC0.out); rintro e w7 ⟨v151, rfl, ho0, hb⟩; refine ⟨_, rfl, ?_⟩; have n0_ := Aside0.mk (Kd.R_lower ho0 (below_size (by repeat (first | (with_reducible first | exact HB.out | apply below_alloc | apply pw_below_drewN | apply below_drew1) | exact HB.out)))); have n1_ := Aside0.mk (below_step (by repeat (first | (with_reducible first | exact HB.out | apply below_alloc | apply pw_below_drewN | apply below_drew1) | exact HB.out)) hb); clear HB; have HO152 := n0_; have HB := n1_; clear n0_ n1_; (try clear hb); (try clear hb2); (try clear hk); (try clear hi); (try clear ho0)) | ((with_reducible refine gate_dst (N := 16) rfl ?_); refine Kd.R_make (Kd.int .i64) _ 3 rfl (N := 16) rfl 28 _ _ rfl (l0.length : Int) rfl rfl Tryd.underlying28 (.int .i64 0) 8 info3 rfl (by decide) (by omega) 0 (ok := fun _ => True) (okp := fun _ => True) rfl (fun _ hk => hk) trivial (of_decide_eq_true (by first | (with_reducible assumption) | assumption)) (Nat.le_trans (Nat.mul_le_mul_right _ (of_decide_eq_true (by first | (with_reducible assumption) | assumption) : (l0.length : Int).toNat ≤ 35184372088832)) (by omega)) (Below.refl _ _) (Nat.le_refl _) ?_; intro v154 w8 ho9 hb hg_ hnew_; clear hg_ hnew_; (first | rw [← Ny153.out] at ho9 | (simp only [Int.reduceToNat] at ho9; rw [← Ny153.out] at ho9)); have n0_ := Aside0.mk (Kd.R_below (by (with_reducible repeat (first | apply Kd.R_alloc | apply Kd.R_drewN | apply Kd.R_drew)); exact HO152.out) hb); have n1_ := Aside0.mk (Kd.R_lower ho9 (below_size (by repeat (first | (with_reducible first | exact HB.out | apply below_alloc | apply pw_below_drewN | apply below_drew1) | exact HB.out)))); have n2_ := Aside0.mk (below_step (by repeat (first | (with_reducible first | exact HB.out | apply below_alloc | apply pw_below_drewN | apply below_drew1) | exact HB.out)) hb); clear HO152; clear HB; have HO152 := n0_; have HO155 := n1_; have HB := n2_; clear n0_ n1_ n2_; clear hb ho9; obtain ⟨Ao10, co10, eo10⟩ := Kd.R_slice HO155.out; subst eo10))
        go_loopg [19] k (fun kq v19 w' => ∃ (x4_1 : List Int) (x19_1 : Int), v19 = .int .i64 x19_1 ∧ Aside0 (relation_Components.l0 kq t150 x4_1 (y153.length : Int) x19_1 = some r) ∧ Aside0 (kq ≤ k) ∧ Aside0 (Kd.R (Kd.int .u64) 26 w' w.heap.size (fun _ => True) v151 t150) ∧ Aside0 (Kd.R (Kd.int .i64) 3 w' w.heap.size (fun _ => True) (.slice Ao10 y153.length co10) x4_1) ∧ Aside0 (Below w.heap.size w w'))
        case atStart => exact ⟨(y153), (0), (by first | rfl | (simp; done) | (simp [*]; done)), H', ⟨Nat.le_refl _⟩, ⟨by (with_reducible repeat (first | apply Kd.R_alloc | apply Kd.R_drewN | apply Kd.R_drew)); exact HO152.out⟩, ⟨by (with_reducible repeat (first | apply Kd.R_alloc | apply Kd.R_drewN | apply Kd.R_drew)); exact HO155.out⟩, ⟨by repeat (first | (with_reducible first | exact HB.out | apply below_alloc | apply pw_below_drewN | apply below_drew1) | exact HB.out)⟩⟩
        case round =>
          clear H'
          try clear c2
          try clear p2
          try clear c3
          try clear c5
          try clear c5b0
          try clear c5b1
          try clear c6
          try clear c6b0
          try clear c6b1
          obtain ⟨x4_1, x19_1, rfl, HA, HK1, HO_3, HO_4, HB⟩ := hrel
          have hl4_1 := (Kd.R_reads' HO_4.out).1
          rw [hl4_1] at HO_4
          (try simp only [hl4_1])
          (try simp only [hl4_1] at HO_3)
          cases gk with
          | zero => exact absurd HA.out (by simp [relation_Components.l0])
          | succ k1 =>
            have H := HA.out
            clear HA
            simp only [relation_Components.l0] at H
            by_cases c11 : x19_1 < (y153.length : Int)
            · rw [if_pos c11] at H
              have c11b0 : decide (x19_1 < (y153.length : Int)) = true := decide_eq_true c11
              (try (have c11b0h := c11b0; simp only [hl4_1] at c11b0h))
              clear c11
              by_cases c12 : 0 ≤ x19_1
              · rw [if_pos c12] at H
                have c12b0 : decide (0 ≤ x19_1) = true := decide_eq_true c12
                clear c12
                by_cases c13 : x19_1 < (x4_1.length : Int)
                · rw [if_pos c13] at H
                  have c13b0 : decide (x19_1 < (x4_1.length : Int)) = true := decide_eq_true c13
                  (try (have c13b0h := c13b0; simp only [hl4_1] at c13b0h))
                  clear c13
                  obtain ⟨y156, hy156⟩ : ∃ y_ : List Int, y_ = (x4_1.set (x19_1 : Int).toNat (-1)) := ⟨_, rfl⟩
                  replace H : (relation_Components.l0 k1 t150 y156 (y153.length : Int) (wrap64 (x19_1 + 1))) = some r := by first | (rw [hy156]; with_reducible exact H) | (have H2_ := (Option.bind_some _ _).symm.trans H; rw [hy156]; with_reducible exact H2_) | (have H2_ := (Option.bind_some _ _).symm.trans H; with_reducible exact H2_) | with_reducible exact H | (rw [hy156]; exact H) | exact H
                  have Ny156 := Aside0.mk hy156
                  clear hy156
                  have H' := Aside0.mk H
                  clear H
                  have p14 : 0 ≤ (x19_1 : Int) := of_decide_eq_true (by first | (with_reducible assumption) | assumption)
                  have q14 : (x19_1 : Int) < ((x4_1.length : Int) : Int) := of_decide_eq_true (by first | (with_reducible assumption) | assumption)
                  obtain ⟨go14, co14, eo14, gb14, gl14, cl14, HG14⟩ := Kd.R_form HO_4.out (by omega)
                  (first | cases eo14 | (injection eo14 with ea_ en_ ec_; (first | subst ea_ | (injection ea_ with ea_; subst ea_)); subst ec_; clear en_))
                  have GB14 := Aside0.mk gb14
                  have GG14 := Aside0.mk HG14
                  clear gb14 gl14 HG14
                  obtain ⟨hx14_0, hf14_0⟩ := Kd.R_celln 0 HO_4.out (x19_1 : Int) p14 q14
                  replace p14 := eq_true p14
                  replace q14 := eq_true q14
                  have HP15 := Kd.R_putg HO_4.out (x19_1 : Int) (-1)
                  go_wp2_with (first | ((with_reducible refine gate_store (t := 3) (p := 24) rfl ?_); refine store_event (t := 3) (p := 24) (v := ?vo_w16) (w1 := (wr.setCell ⟨go14, (x19_1 : Int).toNat, none⟩ (.int .i64 (-1)))) ?hg ?ho ?hn ?hr ?_; (case ho => rfl); (case hg => rfl); (case hn => rfl); (case hr => first | (go_simp; done) | (go_simp; rfl)); intro w16 hw; have hg : wr.grownBy w16 (some go14) := (by rw [hw]; exact HP15.2); have hp_ : Kd.R (Kd.int .i64) 3 w16 w.heap.size (fun _ => True) (.slice (some ⟨go14, 0, none⟩) x4_1.length co10) y156 := (by rw [hw, Ny156.out]; exact HP15.1); clear HP15; have n0_ := Aside0.mk (Kd.R_over' (v := (.slice (some ⟨go14, 0, none⟩) x4_1.length co10)) (by (with_reducible repeat (first | apply Kd.R_alloc | apply Kd.R_drewN | apply Kd.R_drew)); exact HO_3.out) (Kd.R_typed HO_4.out) (by decide) hg); have n1_ := Aside0.mk (hp_); have n2_ := Aside0.mk ((by rw [hw]; exact below_set (HB.out) GB14.out : Below w.heap.size w w16)); clear HO_3; clear HO_4; clear HB; have HO_3 := n0_; have HO_4 := n1_; have HB := n2_; clear n0_ n1_ n2_; clear hg hw hp_))
                  (try simp only [← hl4_1])
                  (first | go_roundg k1 | ((simp only [add_plain] at *); go_roundg k1))
                  case measure => have := HK1.out; omega
                  case rel => exact ⟨(y156), (wrap64 (x19_1 + 1)), (by first | rfl | (simp; done) | (simp [*]; done)), H', ⟨by have := HK1.out; omega⟩, ⟨by (try simp only [hl4_1]); (with_reducible repeat (first | apply Kd.R_alloc | apply Kd.R_drewN | apply Kd.R_drew)); exact HO_3.out⟩, ⟨by (try simp only [hl4_1]); (with_reducible repeat (first | apply Kd.R_alloc | apply Kd.R_drewN | apply Kd.R_drew)); exact HO_4.out⟩, ⟨by repeat (first | (with_reducible first | exact HB.out | apply below_alloc | apply pw_below_drewN | apply below_drew1) | exact HB.out)⟩⟩
                · rw [if_neg c13] at H
                  exact absurd H (by simp)
              · rw [if_neg c12] at H
                exact absurd H (by simp)
            · rw [if_neg c11] at H
              have c11b0 : decide (x19_1 < (y153.length : Int)) = false := decide_eq_false c11
              (try (have c11b0h := c11b0; simp only [hl4_1] at c11b0h))
              clear c11
              have H' := Aside0.mk H
              clear H
              go_wp2
              go_loopg [6, 28] k1 (fun kq v6 v28 w' => ∃ (x4_2 : List Int) (x6_2 : Int) (x28_2 : Int), v6 = .int .i64 x6_2 ∧ v28 = .int .i64 x28_2 ∧ Aside0 (relation_Components.l1 kq t150 x4_2 x6_2 (x4_1.length : Int) x28_2 = some r) ∧ Aside0 (kq ≤ k1) ∧ Aside0 (Kd.R (Kd.int .u64) 26 w' w.heap.size (fun _ => True) v151 t150) ∧ Aside0 (Kd.R (Kd.int .i64) 3 w' w.heap.size (fun _ => True) (.slice Ao10 x4_1.length co10) x4_2) ∧ Aside0 (Below w.heap.size w w'))
              case atStart => exact ⟨(x4_1), (0), (0), (by first | rfl | (simp; done) | (simp [*]; done)), (by first | rfl | (simp; done) | (simp [*]; done)), H', ⟨Nat.le_refl _⟩, ⟨by (try simp only [hl4_1]); (with_reducible repeat (first | apply Kd.R_alloc | apply Kd.R_drewN | apply Kd.R_drew)); exact HO_3.out⟩, ⟨by (try simp only [hl4_1]); (with_reducible repeat (first | apply Kd.R_alloc | apply Kd.R_drewN | apply Kd.R_drew)); exact HO_4.out⟩, ⟨by repeat (first | (with_reducible first | exact HB.out | apply below_alloc | apply pw_below_drewN | apply below_drew1) | exact HB.out)⟩⟩
              case round =>
                clear H'
                try clear c1
                try clear p1
                try clear q1
                try clear hx1
                try clear hf1
                try clear c2
                try clear p2
                try clear c3
                try clear c5
                try clear c5b0
                try clear c5b1
                try clear c6
                try clear c6b0
                try clear c6b1
                try clear p6
                try clear c11
                try clear c11b0
                try clear c12
                try clear c12b0
                try clear c13
                try clear c13b0
                try clear p14
                try clear q14
                try clear hx14
                try clear hf14
                try clear hx14_0
                try clear p14
                try clear p2
                try clear q14
                obtain ⟨x4_2, x6_2, x28_2, rfl, rfl, HA, HK2, HO_3, HO_4, HB⟩ := hrel
                have hl4_2 := (Kd.R_reads' HO_4.out).1
                rw [hl4_2] at HO_4
                (try simp only [hl4_2])
                (try simp only [hl4_2] at HO_3)
                cases gk with
                | zero => exact absurd HA.out (by simp [relation_Components.l1])
                | succ k2 =>
                  have H := HA.out
                  clear HA
                  simp only [relation_Components.l1] at H
                  by_cases c17 : x28_2 < (x4_1.length : Int)
                  · rw [if_pos c17] at H
                    have c17b0 : decide (x28_2 < (x4_1.length : Int)) = true := decide_eq_true c17
                    (try (have c17b0h := c17b0; simp only [hl4_1, hl4_2] at c17b0h))
                    clear c17
                    by_cases c18 : 0 ≤ x28_2
                    · rw [if_pos c18] at H
                      have c18b0 : decide (0 ≤ x28_2) = true := decide_eq_true c18
                      clear c18
                      by_cases c19 : x28_2 < (x4_2.length : Int)
                      · rw [if_pos c19] at H
                        have c19b0 : decide (x28_2 < (x4_2.length : Int)) = true := decide_eq_true c19
                        (try (have c19b0h := c19b0; simp only [hl4_1, hl4_2] at c19b0h))
                        clear c19
                        by_cases c20 : (rd x4_2 x28_2) ≥ 0
                        · rw [if_pos c20] at H
                          have c20b0 : decide (0 ≤ (rd x4_2 x28_2)) = true := decide_eq_true c20
                          clear c20
                          have H' := Aside0.mk H
                          clear H
                          have p157 : 0 ≤ (x28_2 : Int) := of_decide_eq_true (by first | (with_reducible assumption) | assumption)
                          have q157 : x28_2 < (x4_2.length : Int) := of_decide_eq_true (by first | (with_reducible assumption) | assumption)
                          obtain ⟨ad157, e157, hx157_0⟩ := Kd.at_int (Kd.R_reads' HO_4.out).2.2 x28_2 p157 q157
                          cases e157
                          replace p157 := eq_true p157
                          replace q157 := eq_true q157
                          go_wp2
                          (try simp only [← hl4_2])
                          (first | go_roundg k2 | ((simp only [add_plain] at *); go_roundg k2))
                          case measure => have := HK1.out; have := HK2.out; omega
                          case rel => exact ⟨(x4_2), (x6_2), (wrap64 (x28_2 + 1)), (by first | rfl | (simp; done) | (simp [*]; done)), (by first | rfl | (simp; done) | (simp [*]; done)), H', ⟨by have := HK1.out; have := HK2.out; omega⟩, ⟨by (try simp only [hl4_1]); (try simp only [hl4_2]); (with_reducible repeat (first | apply Kd.R_alloc | apply Kd.R_drewN | apply Kd.R_drew)); exact HO_3.out⟩, ⟨by (try simp only [hl4_1]); (try simp only [hl4_2]); (with_reducible repeat (first | apply Kd.R_alloc | apply Kd.R_drewN | apply Kd.R_drew)); exact HO_4.out⟩, ⟨by repeat (first | (with_reducible first | exact HB.out | apply below_alloc | apply pw_below_drewN | apply below_drew1) | exact HB.out)⟩⟩
                        · rw [if_neg c20] at H
                          have c20b0 : decide (0 ≤ (rd x4_2 x28_2)) = false := decide_eq_false c20
                          clear c20
                          have H' := Aside0.mk H
                          clear H
                          have p157 : 0 ≤ (x28_2 : Int) := of_decide_eq_true (by first | (with_reducible assumption) | assumption)
                          have q157 : x28_2 < (x4_2.length : Int) := of_decide_eq_true (by first | (with_reducible assumption) | assumption)
                          obtain ⟨ad157, e157, hx157_0⟩ := Kd.at_int (Kd.R_reads' HO_4.out).2.2 x28_2 p157 q157
                          cases e157
                          replace p157 := eq_true p157
                          replace q157 := eq_true q157
                          go_wp2
                          go_loopg [8] k2 (fun kq v8 w' => ∃ (x4_3 : List Int) (x8_3 : Int), v8 = .int .i64 x8_3 ∧ Aside0 (relation_Components.l2 kq t150 x4_3 x6_2 x28_2 x8_3 (x4_1.length : Int) x28_2 = some r) ∧ Aside0 (kq ≤ k2) ∧ Aside0 (Kd.R (Kd.int .u64) 26 w' w.heap.size (fun _ => True) v151 t150) ∧ Aside0 (Kd.R (Kd.int .i64) 3 w' w.heap.size (fun _ => True) (.slice (some ad157) x4_2.length co10) x4_3) ∧ Aside0 (Below w.heap.size w w'))
                          case atStart => exact ⟨(x4_2), (x28_2), (by first | rfl | (simp; done) | (simp [*]; done)), H', ⟨Nat.le_refl _⟩, ⟨by (try simp only [hl4_1]); (try simp only [hl4_2]); (with_reducible repeat (first | apply Kd.R_alloc | apply Kd.R_drewN | apply Kd.R_drew)); exact HO_3.out⟩, ⟨by (try simp only [hl4_1]); (try simp only [hl4_2]); (with_reducible repeat (first | apply Kd.R_alloc | apply Kd.R_drewN | apply Kd.R_drew)); exact HO_4.out⟩, ⟨by repeat (first | (with_reducible first | exact HB.out | apply below_alloc | apply pw_below_drewN | apply below_drew1) | exact HB.out)⟩⟩
                          case round =>
                            clear H'
                            try clear c1
                            try clear p1
                            try clear q1
                            try clear hx1
                            try clear hf1
                            try clear c2
                            try clear p2
                            try clear c3
                            try clear c5
                            try clear c5b0
                            try clear c5b1
                            try clear c6
                            try clear c6b0
                            try clear c6b1
                            try clear p6
                            try clear c11
                            try clear c11b0
                            try clear c12
                            try clear c12b0
                            try clear c13
                            try clear c13b0
                            try clear p14
                            try clear q14
                            try clear hx14
                            try clear hf14
                            try clear p15
                            try clear q15
                            try clear hx15
                            try clear c17
                            try clear c17b0
                            try clear c18
                            try clear c18b0
                            try clear c19
                            try clear c19b0
                            try clear c20
                            try clear c20b0
                            try clear hx14_0
                            try clear hx157_0
                            try clear p1
                            try clear p14
                            try clear p157
                            try clear p2
                            try clear p6
                            try clear q1
                            try clear q14
                            try clear q157
                            obtain ⟨x4_3, x8_3, rfl, HA, HK3, HO_3, HO_4, HB⟩ := hrel
                            have hl4_3 := (Kd.R_reads' HO_4.out).1
                            rw [hl4_3] at HO_4
                            (try simp only [hl4_3])
                            (try simp only [hl4_3] at HO_3)
                            cases gk with
                            | zero => exact absurd HA.out (by simp [relation_Components.l2])
                            | succ k3 =>
                              have H := HA.out
                              clear HA
                              simp only [relation_Components.l2] at H
                              by_cases c21 : x8_3 < (x4_3.length : Int)
                              · rw [if_pos c21] at H
                                have c21b0 : decide (x8_3 < (x4_3.length : Int)) = true := decide_eq_true c21
                                (try (have c21b0h := c21b0; simp only [hl4_1, hl4_2, hl4_3] at c21b0h))
                                clear c21
                                by_cases c22 : 0 ≤ x28_2
                                · rw [if_pos c22] at H
                                  have c22b0 : decide (0 ≤ x28_2) = true := decide_eq_true c22
                                  clear c22
                                  by_cases c23 : x28_2 < (t150.length : Int)
                                  · rw [if_pos c23] at H
                                    have c23b0 : decide (x28_2 < (t150.length : Int)) = true := decide_eq_true c23
                                    (try (have c23b0h := c23b0; simp only [hl4_1, hl4_2, hl4_3] at c23b0h))
                                    clear c23
                                    obtain ⟨ji24, hji24⟩ : ∃ j_ : Int, (IntKind.u64.wrap (x8_3)) = j_ := ⟨_, rfl⟩
                                    replace H : (if 0 ≤ (ji24) then (if (Go.bits .and .u64 (shr .u64 (rd t150 x28_2) (ji24)) 1) = 1 then (if 0 ≤ x8_3 then (if x8_3 < (t150.length : Int) then (if 0 ≤ (IntKind.u64.wrap (x28_2)) then (if (Go.bits .and .u64 (shr .u64 (rd t150 x8_3) (IntKind.u64.wrap (x28_2))) 1) = 1 then (relation_Components.l2 k3 t150 (x4_3.set (x8_3 : Int).toNat x6_2) x6_2 x28_2 (wrap64 (x8_3 + 1)) (x4_1.length : Int) x28_2) else (relation_Components.l2 k3 t150 x4_3 x6_2 x28_2 (wrap64 (x8_3 + 1)) (x4_1.length : Int) x28_2)) else (none)) else (none)) else (none)) else (relation_Components.l2 k3 t150 x4_3 x6_2 x28_2 (wrap64 (x8_3 + 1)) (x4_1.length : Int) x28_2)) else (none)) = some r := by first | (rw [hji24] at H; exact H) | (simp only [hji24] at H ⊢; exact H)
                                    by_cases c25 : 0 ≤ (ji24)
                                    · rw [if_pos c25] at H
                                      have c25b0 := eq_true c25
                                      have c25b1 : decide (0 ≤ (ji24)) = true := decide_eq_true c25
                                      clear c25
                                      obtain ⟨ji26, hji26⟩ : ∃ j_ : Int, (shr .u64 (rd t150 x28_2) (ji24)) = j_ := ⟨_, rfl⟩
                                      replace H : (if (Go.bits .and .u64 (ji26) 1) = 1 then (if 0 ≤ x8_3 then (if x8_3 < (t150.length : Int) then (if 0 ≤ (IntKind.u64.wrap (x28_2)) then (if (Go.bits .and .u64 (shr .u64 (rd t150 x8_3) (IntKind.u64.wrap (x28_2))) 1) = 1 then (relation_Components.l2 k3 t150 (x4_3.set (x8_3 : Int).toNat x6_2) x6_2 x28_2 (wrap64 (x8_3 + 1)) (x4_1.length : Int) x28_2) else (relation_Components.l2 k3 t150 x4_3 x6_2 x28_2 (wrap64 (x8_3 + 1)) (x4_1.length : Int) x28_2)) else (none)) else (none)) else (none)) else (relation_Components.l2 k3 t150 x4_3 x6_2 x28_2 (wrap64 (x8_3 + 1)) (x4_1.length : Int) x28_2)) = some r := by first | (rw [hji26] at H; exact H) | (simp only [hji26] at H ⊢; exact H)
                                      have hji26_ : ((rd t150 x28_2) / 2 ^ min (ji24).toNat 64) = ji26 := hji26
                                      have hji26z : (ji24) ≤ 64 → ((rd t150 x28_2) / 2 ^ (ji24).toNat) = ji26 := shr_small hji26
                                      by_cases c27 : (Go.bits .and .u64 (ji26) 1) = 1
                                      · rw [if_pos c27] at H
                                        have c27b0 : ((Go.bits .and .u64 (ji26) 1) == 1) = true := beq_iff_eq.mpr c27
                                        have c27b1 : ((Go.bits .and .u64 (ji26) 1) != 1) = false := bne_eq_false_iff_eq.mpr c27
                                        clear c27
                                        by_cases c28 : 0 ≤ x8_3
                                        · rw [if_pos c28] at H
                                          have c28b0 : decide (0 ≤ x8_3) = true := decide_eq_true c28
                                          clear c28
                                          by_cases c29 : x8_3 < (t150.length : Int)
                                          · rw [if_pos c29] at H
                                            have c29b0 : decide (x8_3 < (t150.length : Int)) = true := decide_eq_true c29
                                            (try (have c29b0h := c29b0; simp only [hl4_1, hl4_2, hl4_3] at c29b0h))
                                            clear c29
                                            obtain ⟨ji30, hji30⟩ : ∃ j_ : Int, (IntKind.u64.wrap (x28_2)) = j_ := ⟨_, rfl⟩
                                            replace H : (if 0 ≤ (ji30) then (if (Go.bits .and .u64 (shr .u64 (rd t150 x8_3) (ji30)) 1) = 1 then (relation_Components.l2 k3 t150 (x4_3.set (x8_3 : Int).toNat x6_2) x6_2 x28_2 (wrap64 (x8_3 + 1)) (x4_1.length : Int) x28_2) else (relation_Components.l2 k3 t150 x4_3 x6_2 x28_2 (wrap64 (x8_3 + 1)) (x4_1.length : Int) x28_2)) else (none)) = some r := by first | (rw [hji30] at H; exact H) | (simp only [hji30] at H ⊢; exact H)
                                            by_cases c31 : 0 ≤ (ji30)
                                            · rw [if_pos c31] at H
                                              have c31b0 := eq_true c31
                                              have c31b1 : decide (0 ≤ (ji30)) = true := decide_eq_true c31
                                              clear c31
                                              obtain ⟨ji32, hji32⟩ : ∃ j_ : Int, (shr .u64 (rd t150 x8_3) (ji30)) = j_ := ⟨_, rfl⟩
                                              replace H : (if (Go.bits .and .u64 (ji32) 1) = 1 then (relation_Components.l2 k3 t150 (x4_3.set (x8_3 : Int).toNat x6_2) x6_2 x28_2 (wrap64 (x8_3 + 1)) (x4_1.length : Int) x28_2) else (relation_Components.l2 k3 t150 x4_3 x6_2 x28_2 (wrap64 (x8_3 + 1)) (x4_1.length : Int) x28_2)) = some r := by first | (rw [hji32] at H; exact H) | (simp only [hji32] at H ⊢; exact H)
                                              have hji32_ : ((rd t150 x8_3) / 2 ^ min (ji30).toNat 64) = ji32 := hji32
                                              have hji32z : (ji30) ≤ 64 → ((rd t150 x8_3) / 2 ^ (ji30).toNat) = ji32 := shr_small hji32
                                              by_cases c33 : (Go.bits .and .u64 (ji32) 1) = 1
                                              · rw [if_pos c33] at H
                                                have c33b0 : ((Go.bits .and .u64 (ji32) 1) == 1) = true := beq_iff_eq.mpr c33
                                                have c33b1 : ((Go.bits .and .u64 (ji32) 1) != 1) = false := bne_eq_false_iff_eq.mpr c33
                                                clear c33
                                                obtain ⟨y160, hy160⟩ : ∃ y_ : List Int, y_ = (x4_3.set (x8_3 : Int).toNat x6_2) := ⟨_, rfl⟩
                                                replace H : (relation_Components.l2 k3 t150 y160 x6_2 x28_2 (wrap64 (x8_3 + 1)) (x4_1.length : Int) x28_2) = some r := by first | (rw [hy160]; with_reducible exact H) | (have H2_ := (Option.bind_some _ _).symm.trans H; rw [hy160]; with_reducible exact H2_) | (have H2_ := (Option.bind_some _ _).symm.trans H; with_reducible exact H2_) | with_reducible exact H | (rw [hy160]; exact H) | exact H
                                                have Ny160 := Aside0.mk hy160
                                                clear hy160
                                                have H' := Aside0.mk H
                                                clear H
                                                obtain ⟨Ao35, co35, eo35⟩ := Kd.R_slice HO_3.out
                                                subst eo35
                                                have p158 : 0 ≤ (x28_2 : Int) := of_decide_eq_true (by first | (with_reducible assumption) | assumption)
                                                have q158 : x28_2 < (t150.length : Int) := of_decide_eq_true (by first | (with_reducible assumption) | assumption)
                                                obtain ⟨ad158, e158, hx158_0⟩ := Kd.at_int (Kd.R_reads' HO_3.out).2.2 x28_2 p158 q158
                                                cases e158
                                                replace p158 := eq_true p158
                                                replace q158 := eq_true q158
                                                have p159 : 0 ≤ (x8_3 : Int) := of_decide_eq_true (by first | (with_reducible assumption) | assumption)
                                                have q159 : x8_3 < (t150.length : Int) := of_decide_eq_true (by first | (with_reducible assumption) | assumption)
                                                obtain ⟨ad159, e159, hx159_0⟩ := Kd.at_int (Kd.R_reads' HO_3.out).2.2 x8_3 p159 q159
                                                obtain rfl : ad158 = ad159 := (by injection e159)
                                                replace p159 := eq_true p159
                                                replace q159 := eq_true q159
                                                have p34 : 0 ≤ (x8_3 : Int) := of_decide_eq_true (by first | (with_reducible assumption) | assumption)
                                                have q34 : (x8_3 : Int) < ((x4_3.length : Int) : Int) := of_decide_eq_true (by first | (with_reducible assumption) | assumption)
                                                obtain ⟨go34, co34, eo34, gb34, gl34, cl34, HG34⟩ := Kd.R_form HO_4.out (by omega)
                                                (first | cases eo34 | (injection eo34 with ea_ en_ ec_; (first | subst ea_ | (injection ea_ with ea_; subst ea_)); subst ec_; clear en_))
                                                have GB34 := Aside0.mk gb34
                                                have GG34 := Aside0.mk HG34
                                                clear gb34 gl34 HG34
                                                (first | simp only [add_plain] at hx157_0 | skip)
                                                obtain ⟨hx34_0, hf34_0⟩ := Kd.R_celln 0 HO_4.out (x8_3 : Int) p34 q34
                                                replace p34 := eq_true p34
                                                replace q34 := eq_true q34
                                                have HP36 := Kd.R_putg HO_4.out (x8_3 : Int) x6_2
                                                go_wp2_with (first | ((with_reducible refine gate_store (t := 3) (p := 66) rfl ?_); refine store_event (t := 3) (p := 66) (v := ?vo_w37) (w1 := (wr.setCell ⟨go34, (x8_3 : Int).toNat, none⟩ (.int .i64 x6_2))) ?hg ?ho ?hn ?hr ?_; (case ho => rfl); (case hg => rfl); (case hn => rfl); (case hr => first | (go_simp; done) | (go_simp; rfl)); intro w37 hw; have hg : wr.grownBy w37 (some go34) := (by rw [hw]; exact HP36.2); have hp_ : Kd.R (Kd.int .i64) 3 w37 w.heap.size (fun _ => True) (.slice (some ⟨go34, 0, none⟩) x4_3.length co10) y160 := (by rw [hw, Ny160.out]; exact HP36.1); clear HP36; have n0_ := Aside0.mk (Kd.R_over' (v := (.slice (some ⟨go34, 0, none⟩) x4_3.length co10)) (by (with_reducible repeat (first | apply Kd.R_alloc | apply Kd.R_drewN | apply Kd.R_drew)); exact HO_3.out) (Kd.R_typed HO_4.out) (by decide) hg); have n1_ := Aside0.mk (hp_); have n2_ := Aside0.mk ((by rw [hw]; exact below_set (HB.out) GB34.out : Below w.heap.size w w37)); clear HO_3; clear HO_4; clear HB; have HO_3 := n0_; have HO_4 := n1_; have HB := n2_; clear n0_ n1_ n2_; clear hg hw hp_))
                                                (try simp only [← hl4_3])
                                                (first | go_roundg k3 | ((simp only [add_plain] at *); go_roundg k3))
                                                case measure => have := HK1.out; have := HK2.out; have := HK3.out; omega
                                                case rel => exact ⟨(y160), (wrap64 (x8_3 + 1)), (by first | rfl | (simp; done) | (simp [*]; done)), H', ⟨by have := HK1.out; have := HK2.out; have := HK3.out; omega⟩, ⟨by (try simp only [hl4_1]); (try simp only [hl4_2]); (try simp only [hl4_3]); (with_reducible repeat (first | apply Kd.R_alloc | apply Kd.R_drewN | apply Kd.R_drew)); exact HO_3.out⟩, ⟨by (try simp only [hl4_1]); (try simp only [hl4_2]); (try simp only [hl4_3]); (with_reducible repeat (first | apply Kd.R_alloc | apply Kd.R_drewN | apply Kd.R_drew)); exact HO_4.out⟩, ⟨by repeat (first | (with_reducible first | exact HB.out | apply below_alloc | apply pw_below_drewN | apply below_drew1) | exact HB.out)⟩⟩
                                              · rw [if_neg c33] at H
                                                have c33b0 : ((Go.bits .and .u64 (ji32) 1) == 1) = false := beq_eq_false_iff_ne.mpr c33
                                                have c33b1 : ((Go.bits .and .u64 (ji32) 1) != 1) = true := bne_iff_ne.mpr c33
                                                have H' := Aside0.mk H
                                                clear H
                                                obtain ⟨Ao38, co38, eo38⟩ := Kd.R_slice HO_3.out
                                                subst eo38
                                                have p158 : 0 ≤ (x28_2 : Int) := of_decide_eq_true (by first | (with_reducible assumption) | assumption)
                                                have q158 : x28_2 < (t150.length : Int) := of_decide_eq_true (by first | (with_reducible assumption) | assumption)
                                                obtain ⟨ad158, e158, hx158_0⟩ := Kd.at_int (Kd.R_reads' HO_3.out).2.2 x28_2 p158 q158
                                                cases e158
                                                replace p158 := eq_true p158
                                                replace q158 := eq_true q158
                                                have p159 : 0 ≤ (x8_3 : Int) := of_decide_eq_true (by first | (with_reducible assumption) | assumption)
                                                have q159 : x8_3 < (t150.length : Int) := of_decide_eq_true (by first | (with_reducible assumption) | assumption)
                                                obtain ⟨ad159, e159, hx159_0⟩ := Kd.at_int (Kd.R_reads' HO_3.out).2.2 x8_3 p159 q159
                                                obtain rfl : ad158 = ad159 := (by injection e159)
                                                replace p159 := eq_true p159
                                                replace q159 := eq_true q159
                                                go_wp2
                                                (try simp only [← hl4_3])
                                                (first | go_roundg k3 | ((simp only [add_plain] at *); go_roundg k3))
                                                case measure => have := HK1.out; have := HK2.out; have := HK3.out; omega
                                                case rel => exact ⟨(x4_3), (wrap64 (x8_3 + 1)), (by first | rfl | (simp; done) | (simp [*]; done)), H', ⟨by have := HK1.out; have := HK2.out; have := HK3.out; omega⟩, ⟨by (try simp only [hl4_1]); (try simp only [hl4_2]); (try simp only [hl4_3]); (with_reducible repeat (first | apply Kd.R_alloc | apply Kd.R_drewN | apply Kd.R_drew)); exact HO_3.out⟩, ⟨by (try simp only [hl4_1]); (try simp only [hl4_2]); (try simp only [hl4_3]); (with_reducible repeat (first | apply Kd.R_alloc | apply Kd.R_drewN | apply Kd.R_drew)); exact HO_4.out⟩, ⟨by repeat (first | (with_reducible first | exact HB.out | apply below_alloc | apply pw_below_drewN | apply below_drew1) | exact HB.out)⟩⟩
                                            · rw [if_neg c31] at H
                                              exact absurd H (by simp)
                                          · rw [if_neg c29] at H
                                            exact absurd H (by simp)
                                        · rw [if_neg c28] at H
                                          exact absurd H (by simp)
                                      · rw [if_neg c27] at H
                                        have c27b0 : ((Go.bits .and .u64 (ji26) 1) == 1) = false := beq_eq_false_iff_ne.mpr c27
                                        have c27b1 : ((Go.bits .and .u64 (ji26) 1) != 1) = true := bne_iff_ne.mpr c27
                                        have H' := Aside0.mk H
                                        clear H
                                        obtain ⟨Ao39, co39, eo39⟩ := Kd.R_slice HO_3.out
                                        subst eo39
                                        have p158 : 0 ≤ (x28_2 : Int) := of_decide_eq_true (by first | (with_reducible assumption) | assumption)
                                        have q158 : x28_2 < (t150.length : Int) := of_decide_eq_true (by first | (with_reducible assumption) | assumption)
                                        obtain ⟨ad158, e158, hx158_0⟩ := Kd.at_int (Kd.R_reads' HO_3.out).2.2 x28_2 p158 q158
                                        cases e158
                                        replace p158 := eq_true p158
                                        replace q158 := eq_true q158
                                        go_wp2
                                        (try simp only [← hl4_3])
                                        (first | go_roundg k3 | ((simp only [add_plain] at *); go_roundg k3))
                                        case measure => have := HK1.out; have := HK2.out; have := HK3.out; omega
                                        case rel => exact ⟨(x4_3), (wrap64 (x8_3 + 1)), (by first | rfl | (simp; done) | (simp [*]; done)), H', ⟨by have := HK1.out; have := HK2.out; have := HK3.out; omega⟩, ⟨by (try simp only [hl4_1]); (try simp only [hl4_2]); (try simp only [hl4_3]); (with_reducible repeat (first | apply Kd.R_alloc | apply Kd.R_drewN | apply Kd.R_drew)); exact HO_3.out⟩, ⟨by (try simp only [hl4_1]); (try simp only [hl4_2]); (try simp only [hl4_3]); (with_reducible repeat (first | apply Kd.R_alloc | apply Kd.R_drewN | apply Kd.R_drew)); exact HO_4.out⟩, ⟨by repeat (first | (with_reducible first | exact HB.out | apply below_alloc | apply pw_below_drewN | apply below_drew1) | exact HB.out)⟩⟩
                                    · rw [if_neg c25] at H
                                      exact absurd H (by simp)
                                  · rw [if_neg c23] at H
                                    exact absurd H (by simp)
                                · rw [if_neg c22] at H
                                  exact absurd H (by simp)
                              · rw [if_neg c21] at H
                                have c21b0 : decide (x8_3 < (x4_3.length : Int)) = false := decide_eq_false c21
                                (try (have c21b0h := c21b0; simp only [hl4_1, hl4_2, hl4_3] at c21b0h))
                                clear c21
                                have H' := Aside0.mk H
                                clear H
                                go_wp2
                                (try simp only [← hl4_2, ← hl4_3])
                                (first | go_roundg k3 | ((simp only [add_plain] at *); go_roundg k3))
                                case measure => have := HK1.out; have := HK2.out; have := HK3.out; omega
                                case rel => exact ⟨(x4_3), (wrap64 (x6_2 + 1)), (wrap64 (x28_2 + 1)), (by first | rfl | (simp; done) | (simp [*]; done)), (by first | rfl | (simp; done) | (simp [*]; done)), H', ⟨by have := HK1.out; have := HK2.out; have := HK3.out; omega⟩, ⟨by (try simp only [hl4_1]); (try simp only [hl4_2]); (try simp only [hl4_3]); (with_reducible repeat (first | apply Kd.R_alloc | apply Kd.R_drewN | apply Kd.R_drew)); exact HO_3.out⟩, ⟨by (try simp only [hl4_1]); (try simp only [hl4_2]); (try simp only [hl4_3]); (with_reducible repeat (first | apply Kd.R_alloc | apply Kd.R_drewN | apply Kd.R_drew)); exact HO_4.out⟩, ⟨by repeat (first | (with_reducible first | exact HB.out | apply below_alloc | apply pw_below_drewN | apply below_drew1) | exact HB.out)⟩⟩
                      · rw [if_neg c19] at H
                        exact absurd H (by simp)
                    · rw [if_neg c18] at H
                      exact absurd H (by simp)
                  · rw [if_neg c17] at H
                    have c17b0 : decide (x28_2 < (x4_1.length : Int)) = false := decide_eq_false c17
                    (try (have c17b0h := c17b0; simp only [hl4_1, hl4_2] at c17b0h))
                    clear c17
                    obtain rfl := Option.some.inj H
                    go_wp2
                    go_ret
                    exact ⟨_, by first | rfl | (simp [errW_none, errW_some] <;> rfl) | (simp [*, errW_none, errW_some] <;> rfl), by (with_reducible repeat (first | apply Kd.R_alloc | apply Kd.R_drewN | apply Kd.R_drew)); exact HO_4.out, by repeat (first | (with_reducible first | exact HB.out | apply below_alloc | apply pw_below_drewN | apply below_drew1) | exact HB.out)⟩
      · rw [if_neg c6] at H
        exact absurd H (by simp)
    · rw [if_neg c5] at H
      exact absurd H (by simp)
  · replace c3 := Bool.eq_false_iff.mpr c3
    subst c3
    have H1 : (some ([] : List Int)) = some r := by rw [if_neg (show ¬ (false = true) by decide)] at H; exact H
    clear H
    have H := H1
    clear H1
    obtain rfl := Option.some.inj H
    go_enter Tryd.func33, Tryd.ntmps33
    go_wp2_with (first | ((with_reducible refine gate_callee (f := 37) rfl ?_); refine goesL_ (some 10) rfl rfl Tryd.func37 (by kernel_rfl) rfl #[.slice A0 l0.length c0] rfl (by (try simp only [List.map_toArray, List.map_cons, List.map_nil]); first | done | rfl | (simp only [List.length_drop, List.length_take]; rfl)) ?_; (with_reducible refine (relation_Valid.calls k _ _ l0 false _ ?side1 ?side2 A2.out).mono ?_); (case side1 => repeat (first | exact HR0.out | (with_reducible refine Kd.C_alloc ?_ _) | (with_reducible refine Kd.C_drewN ?_ _) | (with_reducible refine Kd.C_drew ?_))); (case side2 => exact HC0.out); rintro e w' ⟨rfl, ⟨nd, rfl⟩⟩; refine ⟨_, rfl, ?_⟩))
    go_ret
    exact ⟨_, by first | rfl | (simp [errW_none, errW_some] <;> rfl) | (simp [*, errW_none, errW_some] <;> rfl), by first | exact Kd.R_nil _ _ _ _ _ | exact Kd.N_nil _ _ _ _ _ | exact Kd.V_nil _ _ _ _ _ | exact Kd.Q_nil _ _ _ _ _ | exact Kd.S_nil _ _ _ _ _, by repeat (first | (with_reducible first | exact HB.out | apply below_alloc | apply pw_below_drewN | apply below_drew1) | exact HB.out)⟩

end Go.Proofs.YtndpeoladndepaaDoor.PRelationCondenses
