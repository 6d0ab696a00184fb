-- Laid by a program of this session.
import Derived.Test.YtndpeoladndepaaDoorPRelationCondensesx0
import Derived.Test.YtndpeoladndepaaDoorPRelationCondensesx1
import Derived.Test.YtndpeoladndepaaDoorPRelationCondensesxExt
namespace Go.Proofs.YtndpeoladndepaaDoor.PRelationCondenses
open Go.RowKit Go.Proofs.YtndpeoladndepaaDoorW.PrintWords Go.Proofs.YtndpeoladndepaaDoorW.PrintLast Go.Proofs.YtndpeoladndepaaDoorW.PrintMore
attribute [local go_sem] max2_int min2_int max_two min_two max_three min_three max_four min_four   -- for this text's walks alone
set_option linter.unusedVariables false
set_option linter.unusedSimpArgs false

/-! ### relation_Closure: function 29 -/
mutual
def relation_Closure.l0 : Nat → List Int → List Int → Int → Int → Option (List Int)
  | 0, _, _, _, _ => none
  | k + 1, x0, x3, x14, x15 => if x15 < x14 then (if 0 ≤ x15 then (if x15 < (x0.length : Int) then (if 0 ≤ (IntKind.u64.wrap (x15)) then (if x15 < (x3.length : Int) then (relation_Closure.l0 k x0 (x3.set (x15 : Int).toNat (Go.bits .or .u64 (rd x0 x15) (shl .u64 1 (IntKind.u64.wrap (x15))))) x14 (wrap64 (x15 + 1))) else (none)) else (none)) else (none)) else (none)) else (relation_Closure.l1 k x3 (x3.length : Int) 0)
def relation_Closure.l1 : Nat → List Int → Int → Int → Option (List Int)
  | 0, _, _, _ => none
  | k + 1, x3, x31, x32 => if x32 < x31 then (relation_Closure.l2 k x3 x32 x31 x32 (x3.length : Int) 0) else (some x3)
def relation_Closure.l2 : Nat → List Int → Int → Int → Int → Int → Int → Option (List Int)
  | 0, _, _, _, _, _, _ => none
  | k + 1, x3, x5, x31, x32, x36, x37 => if x37 < x36 then (if 0 ≤ x37 then (if x37 < (x3.length : Int) then (if 0 ≤ (IntKind.u64.wrap (x5)) then (if (Go.bits .and .u64 (shr .u64 (rd x3 x37) (IntKind.u64.wrap (x5))) 1) = 1 then (if 0 ≤ x5 then (if x5 < (x3.length : Int) then (relation_Closure.l2 k (x3.set (x37 : Int).toNat (Go.bits .or .u64 (rd x3 x37) (rd x3 x5))) x5 x31 x32 x36 (wrap64 (x37 + 1))) else (none)) else (none)) else (relation_Closure.l2 k x3 x5 x31 x32 x36 (wrap64 (x37 + 1)))) else (none)) else (none)) else (none)) else (relation_Closure.l1 k x3 x31 (wrap64 (x32 + 1)))
end
def relation_Closure.f (k : Nat) (l0 : List Int) : Option (List Int) := (relation_Valid.f k l0).bind fun t105 => (if t105 = true then (if 0 ≤ (l0.length : Int) then (if ((l0.length : Int) : Int).toNat ≤ 35184372088832 then (relation_Closure.l0 k l0 (List.replicate ((l0.length : Int) : Int).toNat 0) (l0.length : Int) 0) else (none)) else (none)) else (some ([] : List Int)))
theorem relation_Closure.mono_l : ∀ k, (∀ y0 y1 y2 y3, LeO (relation_Closure.l0 k y0 y1 y2 y3) (relation_Closure.l0 (k + 1) y0 y1 y2 y3)) ∧ (∀ y0 y1 y2, LeO (relation_Closure.l1 k y0 y1 y2) (relation_Closure.l1 (k + 1) y0 y1 y2)) ∧ (∀ y0 y1 y2 y3 y4 y5, LeO (relation_Closure.l2 k y0 y1 y2 y3 y4 y5) (relation_Closure.l2 (k + 1) y0 y1 y2 y3 y4 y5))
  | 0 => ⟨fun _ _ _ _ r h => by simp [relation_Closure.l0] at h, fun _ _ _ r h => by simp [relation_Closure.l1] at h, fun _ _ _ _ _ _ r h => by simp [relation_Closure.l2] at h⟩
  | k + 1 => by
    obtain ⟨ih0, ih1, ih2⟩ := relation_Closure.mono_l k
    refine ⟨?_, ?_, ?_⟩
    · intro y0 y1 y2 y3
      unfold relation_Closure.l0
      repeat' first
      | (with_reducible exact ih0 _ _ _ _)
      | (with_reducible exact ih1 _ _ _)
      | (with_reducible exact ih2 _ _ _ _ _ _)
      | (with_reducible exact relation_Valid.mono _ _)
      | (with_reducible exact LeO.refl _)
      | (with_reducible exact LeO.none _)
      | (with_reducible refine LeO.ite ?_ ?_)
      | (with_reducible refine LeO.bind ?_ (fun _ => ?_))
      | exact ih0 _ _ _ _
      | exact ih1 _ _ _
      | exact ih2 _ _ _ _ _ _
      | exact relation_Valid.mono _ _
      | exact LeO.none _
      | refine LeO.ite ?_ ?_
      | refine LeO.bind ?_ (fun _ => ?_)
    · intro y0 y1 y2
      unfold relation_Closure.l1
      repeat' first
      | (with_reducible exact ih0 _ _ _ _)
      | (with_reducible exact ih1 _ _ _)
      | (with_reducible exact ih2 _ _ _ _ _ _)
      | (with_reducible exact relation_Valid.mono _ _)
      | (with_reducible exact LeO.refl _)
      | (with_reducible exact LeO.none _)
      | (with_reducible refine LeO.ite ?_ ?_)
      | (with_reducible refine LeO.bind ?_ (fun _ => ?_))
      | exact ih0 _ _ _ _
      | exact ih1 _ _ _
      | exact ih2 _ _ _ _ _ _
      | exact relation_Valid.mono _ _
      | exact LeO.none _
      | refine LeO.ite ?_ ?_
      | refine LeO.bind ?_ (fun _ => ?_)
    · intro y0 y1 y2 y3 y4 y5
      unfold relation_Closure.l2
      repeat' first
      | (with_reducible exact ih0 _ _ _ _)
      | (with_reducible exact ih1 _ _ _)
      | (with_reducible exact ih2 _ _ _ _ _ _)
      | (with_reducible exact relation_Valid.mono _ _)
      | (with_reducible exact LeO.refl _)
      | (with_reducible exact LeO.none _)
      | (with_reducible refine LeO.ite ?_ ?_)
      | (with_reducible refine LeO.bind ?_ (fun _ => ?_))
      | exact ih0 _ _ _ _
      | exact ih1 _ _ _
      | exact ih2 _ _ _ _ _ _
      | exact relation_Valid.mono _ _
      | exact LeO.none _
      | refine LeO.ite ?_ ?_
      | refine LeO.bind ?_ (fun _ => ?_)
theorem relation_Closure.mono : ∀ a0 k, LeO (relation_Closure.f k a0) (relation_Closure.f (k + 1) a0) := by
  intro a0 k
  obtain ⟨ih0, ih1, ih2⟩ := relation_Closure.mono_l k
  unfold relation_Closure.f
  repeat' first
      | (with_reducible exact ih0 _ _ _ _)
      | (with_reducible exact ih1 _ _ _)
      | (with_reducible exact ih2 _ _ _ _ _ _)
      | (with_reducible exact relation_Valid.mono _ _)
      | (with_reducible exact LeO.refl _)
      | (with_reducible exact LeO.none _)
      | (with_reducible refine LeO.ite ?_ ?_)
      | (with_reducible refine LeO.bind ?_ (fun _ => ?_))
      | exact ih0 _ _ _ _
      | exact ih1 _ _ _
      | exact ih2 _ _ _ _ _ _
      | exact relation_Valid.mono _ _
      | exact LeO.none _
      | refine LeO.ite ?_ ?_
      | refine LeO.bind ?_ (fun _ => ?_)
def relation_Closure.T16 : Bool × List (List Nat × List Nat) := (true, [([], []), ([], []), ([0, 1], [0, 1]), ([2], [2]), ([], []), ([], []), ([4, 5], [4, 5]), ([6], [6]), ([3, 7], [3, 7]), ([0, 1, 0, 1, 2, 3, 4, 5, 6, 7, 8], [0, 1]), ([9, 8, 0, 1, 2, 3, 4, 5, 6, 7, 8], [8, 9])])
def relation_Closure.B16 : List Nat := [0, 0, 3, 7, 0, 0, 48, 112, 255, 511, 1023]
theorem relation_Closure.tab16 : rtab .any (opsOf Tryd.f29 16) = relation_Closure.T16 := by kernel_rfl
theorem relation_Closure.bits16 : waitsOk relation_Closure.T16.2 relation_Closure.B16 = true := by kernel_rfl
set_option maxHeartbeats 8000000 in
set_option maxRecDepth 100000 in
theorem relation_Closure.calls (k : Nat) (A0 : Option Addr) (c0 : Nat) (l0 : List Int) (r : List Int) (w : World) (hr0 : Kd.C (Kd.int .u64) w A0 l0.length l0) (hc0 : l0.length ≤ c0) (h : relation_Closure.f k l0 = some r) :
    Calls Tryd.prog 29 #[.slice A0 l0.length c0] w fun e w' => ∃ v0_ : Value, e = .returned (v0_) ∧ Kd.R (Kd.int .u64) 26 w' w.heap.size (fun _ => True) v0_ r ∧ Below w.heap.size w w' := by
  have HR0 := Aside0.mk hr0
  have HC0 := Aside0.mk hc0
  clear hr0 hc0
  have HB := Aside0.mk (Below.refl w.heap.size w)
  have H : ((relation_Valid.f k l0).bind fun t105 => (if t105 = true then (if 0 ≤ (l0.length : Int) then (if ((l0.length : Int) : Int).toNat ≤ 35184372088832 then (relation_Closure.l0 k l0 (List.replicate ((l0.length : Int) : Int).toNat 0) (l0.length : Int) 0) else (none)) else (none)) else (some ([] : List Int)))) = some r := h
  clear h
  replace H := Option.bind_eq_some_iff.mp H
  obtain ⟨t105, A20, H⟩ := H
  replace H : (if t105 = true then (if 0 ≤ (l0.length : Int) then (if ((l0.length : Int) : Int).toNat ≤ 35184372088832 then (relation_Closure.l0 k l0 (List.replicate ((l0.length : Int) : Int).toNat 0) (l0.length : Int) 0) else (none)) else (none)) else (some ([] : List Int))) = some r := H
  have A2 := Aside0.mk A20
  clear A20
  by_cases c3 : t105 = true
  · subst c3
    have H1 : (if 0 ≤ (l0.length : Int) then (if ((l0.length : Int) : Int).toNat ≤ 35184372088832 then (relation_Closure.l0 k l0 (List.replicate ((l0.length : Int) : Int).toNat 0) (l0.length : Int) 0) else (none)) else (none)) = some r := by rw [if_pos rfl] at H; exact H
    clear H
    have H := H1
    clear H1
    by_cases c4 : 0 ≤ (l0.length : Int)
    · rw [if_pos c4] at H
      have c4b0 := eq_true c4
      have c4b1 : decide (0 ≤ (l0.length : Int)) = true := decide_eq_true c4
      clear c4
      by_cases c5 : ((l0.length : Int) : Int).toNat ≤ 35184372088832
      · rw [if_pos c5] at H
        have c5b0 := eq_true c5
        have c5b1 : decide (((l0.length : Int) : Int).toNat ≤ 35184372088832) = true := decide_eq_true c5
        clear c5
        obtain ⟨y106, hy106⟩ : ∃ y_ : List Int, y_ = (List.replicate ((l0.length : Int) : Int).toNat 0) := ⟨_, rfl⟩
        replace H : (relation_Closure.l0 k l0 y106 (l0.length : Int) 0) = some r := by first | (rw [hy106]; with_reducible exact H) | (have H2_ := (Option.bind_some _ _).symm.trans H; rw [hy106]; with_reducible exact H2_) | (have H2_ := (Option.bind_some _ _).symm.trans H; with_reducible exact H2_) | with_reducible exact H | (rw [hy106]; exact H) | exact H
        have Ny106 := Aside0.mk hy106
        clear hy106
        have H' := Aside0.mk H
        clear H
        go_enter Tryd.func29, Tryd.ntmps29
        go_wp2_with (first | ((with_reducible refine gate_callee (f := 37) rfl ?_); refine goesL_ (some 8) rfl rfl Tryd.func37 (by kernel_rfl) rfl #[.slice A0 l0.length c0] rfl (by (try simp only [List.map_toArray, List.map_cons, List.map_nil]); first | done | rfl | (simp only [List.length_drop, List.length_take]; rfl)) ?_; (with_reducible refine (relation_Valid.calls k _ _ l0 true _ ?side1 ?side2 A2.out).mono ?_); (case side1 => repeat (first | exact HR0.out | (with_reducible refine Kd.C_alloc ?_ _) | (with_reducible refine Kd.C_drewN ?_ _) | (with_reducible refine Kd.C_drew ?_))); (case side2 => exact HC0.out); rintro e w' ⟨rfl, ⟨nd, rfl⟩⟩; refine ⟨_, rfl, ?_⟩) | ((with_reducible refine gate_dst (N := 12) rfl ?_); refine Kd.R_make (Kd.int .u64) _ 26 rfl (N := 12) rfl 22 _ _ rfl (l0.length : Int) rfl rfl Tryd.underlying22 (.int .u64 0) 8 info26 rfl (by decide) (by omega) 0 (ok := fun _ => True) (okp := fun _ => True) rfl (fun _ hk => hk) trivial (of_decide_eq_true (by first | (with_reducible assumption) | assumption)) (Nat.le_trans (Nat.mul_le_mul_right _ (of_decide_eq_true (by first | (with_reducible assumption) | assumption) : (l0.length : Int).toNat ≤ 35184372088832)) (by omega)) (Below.refl _ _) (Nat.le_refl _) ?_; intro v107 w6 ho7 hb hg_ hnew_; clear hg_ hnew_; (first | rw [← Ny106.out] at ho7 | (simp only [Int.reduceToNat] at ho7; rw [← Ny106.out] at ho7)); have n0_ := Aside0.mk (Kd.R_lower ho7 (below_size (by repeat (first | (with_reducible first | exact HB.out | apply below_alloc | apply pw_below_drewN | apply below_drew1) | exact HB.out)))); have n1_ := Aside0.mk (below_step (by repeat (first | (with_reducible first | exact HB.out | apply below_alloc | apply pw_below_drewN | apply below_drew1) | exact HB.out)) hb); clear HB; have HO108 := n0_; have HB := n1_; clear n0_ n1_; clear hb ho7))
        go_loopg [15] k (fun kq v15 w' => ∃ (x3_1 : List Int) (x15_1 : Int), v15 = .int .i64 x15_1 ∧ Aside0 (relation_Closure.l0 kq l0 x3_1 (l0.length : Int) x15_1 = some r) ∧ Aside0 (kq ≤ k) ∧ Aside0 (Kd.R (Kd.int .u64) 26 w' w.heap.size (fun _ => True) v107 x3_1) ∧ Aside0 (Below w.heap.size w w'))
        case atStart => exact ⟨(y106), (0), (by first | rfl | (simp; done) | (simp [*]; done)), H', ⟨Nat.le_refl _⟩, ⟨by (with_reducible repeat (first | apply Kd.R_alloc | apply Kd.R_drewN | apply Kd.R_drew)); exact HO108.out⟩, ⟨by repeat (first | (with_reducible first | exact HB.out | apply below_alloc | apply pw_below_drewN | apply below_drew1) | exact HB.out)⟩⟩
        case round =>
          clear H'
          try clear c2
          try clear p2
          try clear c3
          try clear c4
          try clear c4b0
          try clear c4b1
          try clear c5
          try clear c5b0
          try clear c5b1
          obtain ⟨x3_1, x15_1, rfl, HA, HK1, HO_3, HB⟩ := hrel
          cases gk with
          | zero => exact absurd HA.out (by simp [relation_Closure.l0])
          | succ k1 =>
            have H := HA.out
            clear HA
            simp only [relation_Closure.l0] at H
            by_cases c8 : x15_1 < (l0.length : Int)
            · rw [if_pos c8] at H
              have c8b0 : decide (x15_1 < (l0.length : Int)) = true := decide_eq_true c8
              clear c8
              by_cases c9 : 0 ≤ x15_1
              · rw [if_pos c9] at H
                have c9b0 : decide (0 ≤ x15_1) = true := decide_eq_true c9
                clear c9
                by_cases c10 : x15_1 < (l0.length : Int)
                · rw [if_pos c10] at H
                  have c10b0 : decide (x15_1 < (l0.length : Int)) = true := decide_eq_true c10
                  clear c10
                  obtain ⟨ji11, hji11⟩ : ∃ j_ : Int, (IntKind.u64.wrap (x15_1)) = j_ := ⟨_, rfl⟩
                  replace H : (if 0 ≤ (ji11) then (if x15_1 < (x3_1.length : Int) then (relation_Closure.l0 k1 l0 (x3_1.set (x15_1 : Int).toNat (Go.bits .or .u64 (rd l0 x15_1) (shl .u64 1 (ji11)))) (l0.length : Int) (wrap64 (x15_1 + 1))) else (none)) else (none)) = some r := by first | (rw [hji11] at H; exact H) | (simp only [hji11] at H ⊢; exact H)
                  by_cases c12 : 0 ≤ (ji11)
                  · rw [if_pos c12] at H
                    have c12b0 := eq_true c12
                    have c12b1 : decide (0 ≤ (ji11)) = true := decide_eq_true c12
                    clear c12
                    obtain ⟨ji13, hji13⟩ : ∃ j_ : Int, (shl .u64 1 (ji11)) = j_ := ⟨_, rfl⟩
                    replace H : (if x15_1 < (x3_1.length : Int) then (relation_Closure.l0 k1 l0 (x3_1.set (x15_1 : Int).toNat (Go.bits .or .u64 (rd l0 x15_1) (ji13))) (l0.length : Int) (wrap64 (x15_1 + 1))) else (none)) = some r := by first | (rw [hji13] at H; exact H) | (simp only [hji13] at H ⊢; exact H)
                    have hji13_ : (IntKind.u64.wrap (1 * 2 ^ min (ji11).toNat 64)) = ji13 := hji13
                    have hji13z : (ji11) ≤ 64 → (IntKind.u64.wrap (1 * 2 ^ (ji11).toNat)) = ji13 := shl_small hji13
                    have hji13u : (IntKind.u64.wrap (2 ^ min (ji11).toNat 64)) = ji13 := by have h_ := hji13_; rw [Int.one_mul] at h_; exact h_
                    have hji13v : (ji11) ≤ 64 → (IntKind.u64.wrap (2 ^ (ji11).toNat)) = ji13 := fun hle_ => by have h_ := hji13z hle_; rw [Int.one_mul] at h_; exact h_
                    by_cases c14 : x15_1 < (x3_1.length : Int)
                    · rw [if_pos c14] at H
                      have c14b0 : decide (x15_1 < (x3_1.length : Int)) = true := decide_eq_true c14
                      clear c14
                      obtain ⟨y110, hy110⟩ : ∃ y_ : List Int, y_ = (x3_1.set (x15_1 : Int).toNat (Go.bits .or .u64 (rd l0 x15_1) (ji13))) := ⟨_, rfl⟩
                      replace H : (relation_Closure.l0 k1 l0 y110 (l0.length : Int) (wrap64 (x15_1 + 1))) = some r := by first | (rw [hy110]; with_reducible exact H) | (have H2_ := (Option.bind_some _ _).symm.trans H; rw [hy110]; with_reducible exact H2_) | (have H2_ := (Option.bind_some _ _).symm.trans H; with_reducible exact H2_) | with_reducible exact H | (rw [hy110]; exact H) | exact H
                      have Ny110 := Aside0.mk hy110
                      clear hy110
                      have H' := Aside0.mk H
                      clear H
                      have p109 : 0 ≤ (x15_1 : Int) := of_decide_eq_true (by first | (with_reducible assumption) | assumption)
                      have q109 : x15_1 < (l0.length : Int) := of_decide_eq_true (by first | (with_reducible assumption) | assumption)
                      obtain ⟨ad109, e109, hx109_0⟩ := Kd.at_int HR0.out x15_1 p109 q109
                      cases e109
                      replace hx109_0 := (HB.out.cell (World.block_lt_of_cell? w _ hx109_0)).trans hx109_0
                      replace p109 := eq_true p109
                      replace q109 := eq_true q109
                      have p15 : 0 ≤ (x15_1 : Int) := of_decide_eq_true (by first | (with_reducible assumption) | assumption)
                      have q15 : (x15_1 : Int) < ((x3_1.length : Int) : Int) := of_decide_eq_true (by first | (with_reducible assumption) | assumption)
                      obtain ⟨go15, co15, eo15, gb15, gl15, cl15, HG15⟩ := Kd.R_form HO_3.out (by omega)
                      (first | cases eo15 | (injection eo15 with ea_ en_ ec_; (first | subst ea_ | (injection ea_ with ea_; subst ea_)); subst ec_; clear en_))
                      have GB15 := Aside0.mk gb15
                      have GG15 := Aside0.mk HG15
                      clear gb15 gl15 HG15
                      obtain ⟨hx15_0, hf15_0⟩ := Kd.R_celln 0 HO_3.out (x15_1 : Int) p15 q15
                      replace p15 := eq_true p15
                      replace q15 := eq_true q15
                      have HP16 := Kd.R_putg HO_3.out (x15_1 : Int) (Go.bits .or .u64 (rd l0 x15_1) (ji13))
                      go_wp2_with (first | ((with_reducible refine gate_store (t := 26) (p := 28) rfl ?_); refine store_event (t := 26) (p := 28) (v := ?vo_w17) (w1 := (wr.setCell ⟨go15, (x15_1 : Int).toNat, none⟩ (.int .u64 (Go.bits .or .u64 (rd l0 x15_1) (ji13))))) ?hg ?ho ?hn ?hr ?_; (case ho => rfl); (case hg => rfl); (case hn => rfl); (case hr => first | (go_simp; done) | (go_simp; rfl)); intro w17 hw; have hg : wr.grownBy w17 (some go15) := (by rw [hw]; exact HP16.2); have hp_ : Kd.R (Kd.int .u64) 26 w17 w.heap.size (fun _ => True) (.slice (some ⟨go15, 0, none⟩) x3_1.length co15) y110 := (by rw [hw, Ny110.out]; exact HP16.1); clear HP16; have n0_ := Aside0.mk (hp_); have n1_ := Aside0.mk ((by rw [hw]; exact below_set (HB.out) GB15.out : Below w.heap.size w w17)); clear HO_3; clear HB; have HO_3 := n0_; have HB := n1_; clear n0_ n1_; clear hg hw hp_))
                      (first | go_roundg k1 | ((simp only [add_plain] at *); go_roundg k1))
                      case measure => have := HK1.out; omega
                      case rel => exact ⟨(y110), (wrap64 (x15_1 + 1)), (by first | rfl | (simp; done) | (simp [*]; done)), H', ⟨by have := HK1.out; omega⟩, ⟨by (with_reducible repeat (first | apply Kd.R_alloc | apply Kd.R_drewN | apply Kd.R_drew)); exact HO_3.out⟩, ⟨by repeat (first | (with_reducible first | exact HB.out | apply below_alloc | apply pw_below_drewN | apply below_drew1) | exact HB.out)⟩⟩
                    · rw [if_neg c14] at H
                      exact absurd H (by simp)
                  · rw [if_neg c12] at H
                    exact absurd H (by simp)
                · rw [if_neg c10] at H
                  exact absurd H (by simp)
              · rw [if_neg c9] at H
                exact absurd H (by simp)
            · rw [if_neg c8] at H
              have c8b0 : decide (x15_1 < (l0.length : Int)) = false := decide_eq_false c8
              clear c8
              have H' := Aside0.mk H
              clear H
              obtain ⟨Ao18, co18, eo18⟩ := Kd.R_slice HO_3.out
              subst eo18
              go_wp2
              go_loopg [32] k1 (fun kq v32 w' => ∃ (x3_2 : List Int) (x32_2 : Int), v32 = .int .i64 x32_2 ∧ Aside0 (relation_Closure.l1 kq x3_2 (x3_1.length : Int) x32_2 = some r) ∧ Aside0 (kq ≤ k1) ∧ Aside0 (Kd.R (Kd.int .u64) 26 w' w.heap.size (fun _ => True) (.slice Ao18 x3_1.length co18) x3_2) ∧ Aside0 (Below w.heap.size w w'))
              case atStart => exact ⟨(x3_1), (0), (by first | rfl | (simp; done) | (simp [*]; done)), H', ⟨Nat.le_refl _⟩, ⟨by (with_reducible repeat (first | apply Kd.R_alloc | apply Kd.R_drewN | apply Kd.R_drew)); exact HO_3.out⟩, ⟨by repeat (first | (with_reducible first | exact HB.out | apply below_alloc | apply pw_below_drewN | apply below_drew1) | exact HB.out)⟩⟩
              case round =>
                clear H'
                try clear c1
                try clear p1
                try clear q1
                try clear hx1
                try clear hf1
                try clear c2
                try clear p2
                try clear c3
                try clear c4
                try clear c4b0
                try clear c4b1
                try clear c5
                try clear c5b0
                try clear c5b1
                try clear p6
                try clear c8
                try clear c8b0
                try clear c9
                try clear c9b0
                try clear c10
                try clear c10b0
                try clear p10
                try clear q10
                try clear hx10
                try clear c12
                try clear c12b0
                try clear c12b1
                try clear c14
                try clear c14b0
                try clear p15
                try clear q15
                try clear hx15
                try clear hf15
                try clear hx109_0
                try clear hx15_0
                try clear p109
                try clear p15
                try clear p2
                try clear q109
                try clear q15
                obtain ⟨x3_2, x32_2, rfl, HA, HK2, HO_3, HB⟩ := hrel
                have hl3_2 := (Kd.R_reads' HO_3.out).1
                rw [hl3_2] at HO_3
                (try simp only [hl3_2])
                cases gk with
                | zero => exact absurd HA.out (by simp [relation_Closure.l1])
                | succ k2 =>
                  have H := HA.out
                  clear HA
                  simp only [relation_Closure.l1] at H
                  by_cases c19 : x32_2 < (x3_1.length : Int)
                  · rw [if_pos c19] at H
                    have c19b0 : decide (x32_2 < (x3_1.length : Int)) = true := decide_eq_true c19
                    (try (have c19b0h := c19b0; simp only [hl3_2] at c19b0h))
                    clear c19
                    have H' := Aside0.mk H
                    clear H
                    go_wp2
                    go_loopg [37] k2 (fun kq v37 w' => ∃ (x3_3 : List Int) (x37_3 : Int), v37 = .int .i64 x37_3 ∧ Aside0 (relation_Closure.l2 kq x3_3 x32_2 (x3_1.length : Int) x32_2 (x3_2.length : Int) x37_3 = some r) ∧ Aside0 (kq ≤ k2) ∧ Aside0 (Kd.R (Kd.int .u64) 26 w' w.heap.size (fun _ => True) (.slice Ao18 x3_2.length co18) x3_3) ∧ Aside0 (Below w.heap.size w w'))
                    case atStart => exact ⟨(x3_2), (0), (by first | rfl | (simp; done) | (simp [*]; done)), H', ⟨Nat.le_refl _⟩, ⟨by (try simp only [hl3_2]); (with_reducible repeat (first | apply Kd.R_alloc | apply Kd.R_drewN | apply Kd.R_drew)); exact HO_3.out⟩, ⟨by repeat (first | (with_reducible first | exact HB.out | apply below_alloc | apply pw_below_drewN | apply below_drew1) | exact HB.out)⟩⟩
                    case round =>
                      clear H'
                      try clear c1
                      try clear p1
                      try clear q1
                      try clear hx1
                      try clear hf1
                      try clear c2
                      try clear p2
                      try clear c3
                      try clear c4
                      try clear c4b0
                      try clear c4b1
                      try clear c5
                      try clear c5b0
                      try clear c5b1
                      try clear p6
                      try clear c8
                      try clear c8b0
                      try clear c9
                      try clear c9b0
                      try clear c10
                      try clear c10b0
                      try clear p10
                      try clear q10
                      try clear hx10
                      try clear c12
                      try clear c12b0
                      try clear c12b1
                      try clear c14
                      try clear c14b0
                      try clear p15
                      try clear q15
                      try clear hx15
                      try clear hf15
                      try clear c19
                      try clear c19b0
                      try clear hx109_0
                      try clear hx15_0
                      try clear p1
                      try clear p10
                      try clear p109
                      try clear p15
                      try clear p2
                      try clear p6
                      try clear q1
                      try clear q10
                      try clear q109
                      try clear q15
                      obtain ⟨x3_3, x37_3, rfl, HA, HK3, HO_3, HB⟩ := hrel
                      have hl3_3 := (Kd.R_reads' HO_3.out).1
                      rw [hl3_3] at HO_3
                      (try simp only [hl3_3])
                      cases gk with
                      | zero => exact absurd HA.out (by simp [relation_Closure.l2])
                      | succ k3 =>
                        have H := HA.out
                        clear HA
                        simp only [relation_Closure.l2] at H
                        by_cases c20 : x37_3 < (x3_2.length : Int)
                        · rw [if_pos c20] at H
                          have c20b0 : decide (x37_3 < (x3_2.length : Int)) = true := decide_eq_true c20
                          (try (have c20b0h := c20b0; simp only [hl3_2, hl3_3] at c20b0h))
                          clear c20
                          by_cases c21 : 0 ≤ x37_3
                          · rw [if_pos c21] at H
                            have c21b0 : decide (0 ≤ x37_3) = true := decide_eq_true c21
                            clear c21
                            by_cases c22 : x37_3 < (x3_3.length : Int)
                            · rw [if_pos c22] at H
                              have c22b0 : decide (x37_3 < (x3_3.length : Int)) = true := decide_eq_true c22
                              (try (have c22b0h := c22b0; simp only [hl3_2, hl3_3] at c22b0h))
                              clear c22
                              obtain ⟨ji23, hji23⟩ : ∃ j_ : Int, (IntKind.u64.wrap (x32_2)) = j_ := ⟨_, rfl⟩
                              replace H : (if 0 ≤ (ji23) then (if (Go.bits .and .u64 (shr .u64 (rd x3_3 x37_3) (ji23)) 1) = 1 then (if 0 ≤ x32_2 then (if x32_2 < (x3_3.length : Int) then (relation_Closure.l2 k3 (x3_3.set (x37_3 : Int).toNat (Go.bits .or .u64 (rd x3_3 x37_3) (rd x3_3 x32_2))) x32_2 (x3_1.length : Int) x32_2 (x3_2.length : Int) (wrap64 (x37_3 + 1))) else (none)) else (none)) else (relation_Closure.l2 k3 x3_3 x32_2 (x3_1.length : Int) x32_2 (x3_2.length : Int) (wrap64 (x37_3 + 1)))) else (none)) = some r := by first | (rw [hji23] at H; exact H) | (simp only [hji23] at H ⊢; exact H)
                              by_cases c24 : 0 ≤ (ji23)
                              · rw [if_pos c24] at H
                                have c24b0 := eq_true c24
                                have c24b1 : decide (0 ≤ (ji23)) = true := decide_eq_true c24
                                clear c24
                                obtain ⟨ji25, hji25⟩ : ∃ j_ : Int, (shr .u64 (rd x3_3 x37_3) (ji23)) = j_ := ⟨_, rfl⟩
                                replace H : (if (Go.bits .and .u64 (ji25) 1) = 1 then (if 0 ≤ x32_2 then (if x32_2 < (x3_3.length : Int) then (relation_Closure.l2 k3 (x3_3.set (x37_3 : Int).toNat (Go.bits .or .u64 (rd x3_3 x37_3) (rd x3_3 x32_2))) x32_2 (x3_1.length : Int) x32_2 (x3_2.length : Int) (wrap64 (x37_3 + 1))) else (none)) else (none)) else (relation_Closure.l2 k3 x3_3 x32_2 (x3_1.length : Int) x32_2 (x3_2.length : Int) (wrap64 (x37_3 + 1)))) = some r := by first | (rw [hji25] at H; exact H) | (simp only [hji25] at H ⊢; exact H)
                                have hji25_ : ((rd x3_3 x37_3) / 2 ^ min (ji23).toNat 64) = ji25 := hji25
                                have hji25z : (ji23) ≤ 64 → ((rd x3_3 x37_3) / 2 ^ (ji23).toNat) = ji25 := shr_small hji25
                                by_cases c26 : (Go.bits .and .u64 (ji25) 1) = 1
                                · rw [if_pos c26] at H
                                  have c26b0 : ((Go.bits .and .u64 (ji25) 1) == 1) = true := beq_iff_eq.mpr c26
                                  have c26b1 : ((Go.bits .and .u64 (ji25) 1) != 1) = false := bne_eq_false_iff_eq.mpr c26
                                  clear c26
                                  by_cases c27 : 0 ≤ x32_2
                                  · rw [if_pos c27] at H
                                    have c27b0 : decide (0 ≤ x32_2) = true := decide_eq_true c27
                                    clear c27
                                    by_cases c28 : x32_2 < (x3_3.length : Int)
                                    · rw [if_pos c28] at H
                                      have c28b0 : decide (x32_2 < (x3_3.length : Int)) = true := decide_eq_true c28
                                      (try (have c28b0h := c28b0; simp only [hl3_2, hl3_3] at c28b0h))
                                      clear c28
                                      obtain ⟨y114, hy114⟩ : ∃ y_ : List Int, y_ = (x3_3.set (x37_3 : Int).toNat (Go.bits .or .u64 (rd x3_3 x37_3) (rd x3_3 x32_2))) := ⟨_, rfl⟩
                                      replace H : (relation_Closure.l2 k3 y114 x32_2 (x3_1.length : Int) x32_2 (x3_2.length : Int) (wrap64 (x37_3 + 1))) = some r := by first | (rw [hy114]; with_reducible exact H) | (have H2_ := (Option.bind_some _ _).symm.trans H; rw [hy114]; with_reducible exact H2_) | (have H2_ := (Option.bind_some _ _).symm.trans H; with_reducible exact H2_) | with_reducible exact H | (rw [hy114]; exact H) | exact H
                                      have Ny114 := Aside0.mk hy114
                                      clear hy114
                                      have H' := Aside0.mk H
                                      clear H
                                      have p111 : 0 ≤ (x37_3 : Int) := of_decide_eq_true (by first | (with_reducible assumption) | assumption)
                                      have q111 : x37_3 < (x3_3.length : Int) := of_decide_eq_true (by first | (with_reducible assumption) | assumption)
                                      obtain ⟨ad111, e111, hx111_0⟩ := Kd.at_int (Kd.R_reads' HO_3.out).2.2 x37_3 p111 q111
                                      cases e111
                                      replace p111 := eq_true p111
                                      replace q111 := eq_true q111
                                      try go_wp2
                                      have n0_ := Aside0.mk (Kd.R_drew HO_3.out)
                                      have n1_ := Aside0.mk (below_drew1 HB.out)
                                      clear HO_3
                                      clear HB
                                      have HO_3 := n0_
                                      have HB := n1_
                                      clear n0_ n1_
                                      have p112 : 0 ≤ (x37_3 : Int) := of_decide_eq_true (by first | (with_reducible assumption) | assumption)
                                      have q112 : x37_3 < (x3_3.length : Int) := of_decide_eq_true (by first | (with_reducible assumption) | assumption)
                                      obtain ⟨ad112, e112, hx112_0⟩ := Kd.at_int (Kd.R_reads' HO_3.out).2.2 x37_3 p112 q112
                                      obtain rfl : ad111 = ad112 := (by injection e112)
                                      replace p112 := eq_true p112
                                      replace q112 := eq_true q112
                                      have p113 : 0 ≤ (x32_2 : Int) := of_decide_eq_true (by first | (with_reducible assumption) | assumption)
                                      have q113 : x32_2 < (x3_3.length : Int) := of_decide_eq_true (by first | (with_reducible assumption) | assumption)
                                      obtain ⟨ad113, e113, hx113_0⟩ := Kd.at_int (Kd.R_reads' HO_3.out).2.2 x32_2 p113 q113
                                      obtain rfl : ad111 = ad113 := (by injection e113)
                                      replace p113 := eq_true p113
                                      replace q113 := eq_true q113
                                      have p29 : 0 ≤ (x37_3 : Int) := of_decide_eq_true (by first | (with_reducible assumption) | assumption)
                                      have q29 : (x37_3 : Int) < ((x3_3.length : Int) : Int) := of_decide_eq_true (by first | (with_reducible assumption) | assumption)
                                      obtain ⟨go29, co29, eo29, gb29, gl29, cl29, HG29⟩ := Kd.R_form HO_3.out (by omega)
                                      (first | cases eo29 | (injection eo29 with ea_ en_ ec_; (first | subst ea_ | (injection ea_ with ea_; subst ea_)); subst ec_; clear en_))
                                      have GB29 := Aside0.mk gb29
                                      have GG29 := Aside0.mk HG29
                                      clear gb29 gl29 HG29
                                      (first | simp only [add_plain] at hx111_0 | skip)
                                      (first | simp only [add_plain] at hx112_0 | skip)
                                      (first | simp only [add_plain] at hx113_0 | skip)
                                      obtain ⟨hx29_0, hf29_0⟩ := Kd.R_celln 0 HO_3.out (x37_3 : Int) p29 q29
                                      replace p29 := eq_true p29
                                      replace q29 := eq_true q29
                                      have HP31 := Kd.R_putn HO_3.out (x37_3 : Int) (Go.bits .or .u64 (rd x3_3 x37_3) (rd x3_3 x32_2))
                                      rw [← Ny114.out] at HP31
                                      have HQ31 := Aside0.mk HP31
                                      clear HP31
                                      refine start_ (n := 11) (S := fun w' => w'.cell? ⟨go29, (x37_3).toNat, none⟩ = some (.int .u64 (rd x3_3 x37_3)) ∧ w'.cell? ⟨go29, (x32_2).toNat, none⟩ = some (.int .u64 (rd x3_3 x32_2))) (ds := [10]) #[false, false, false, false, false, false, false, false, false, false, false] (by kernel_rfl) rfl rfl ⟨hx112_0, hx113_0⟩ (fun hHeld => ?_); refine with_tabW relation_Closure.tab16 relation_Closure.bits16 (fun HT_ HW_ => ?_)
                                      generalize wr.drew = w30 at HO_3 HB GG29 HQ31 hf29_0 hx111_0 hx112_0 hx113_0 hx29_0 hHeld ⊢
                                      refine pure_ (i := 0) (N := some 49) (v := ?_) (a' := ?_) #[true, false, false, false, false, false, false, false, false, false, false] rfl rfl (any_of HT_.out (by kernel_rfl)) (fun _ _ _ h => h) (Or.inl ⟨by rfl, ?_⟩) ?_ ?_
                                      rotate_left
                                      · intro w'
                                        go_simp
                                        with_reducible rfl
                                      rotate_left
                                      · simp only [Act.put, List.setIfInBounds_toArray, List.set_cons_zero, List.set_cons_succ, i64_w, i32_w]
                                        rfl
                                      refine pure_ (i := 1) (N := some 50) (v := ?_) (a' := ?_) #[true, true, false, false, false, false, false, false, false, false, false] rfl rfl (any_of HT_.out (by kernel_rfl)) (fun _ _ _ h => h) (Or.inl ⟨by rfl, ?_⟩) ?_ ?_
                                      rotate_left
                                      · intro w'
                                        go_simp
                                        with_reducible rfl
                                      rotate_left
                                      · simp only [Act.put, List.setIfInBounds_toArray, List.set_cons_zero, List.set_cons_succ, i64_w, i32_w]
                                        rfl
                                      refine pure_ (i := 2) (N := some 51) (v := ?_) (a' := ?_) #[true, true, true, false, false, false, false, false, false, false, false] rfl rfl (any_of HT_.out (by kernel_rfl)) (fun _ _ _ h => h) (Or.inl ⟨by rfl, ?_⟩) ?_ ?_
                                      rotate_left
                                      · intro w'
                                        go_simp
                                        with_reducible rfl
                                      rotate_left
                                      · simp only [Act.put, List.setIfInBounds_toArray, List.set_cons_zero, List.set_cons_succ, i64_w, i32_w]
                                        rfl
                                      refine pure_ (i := 4) (N := some 53) (v := ?_) (a' := ?_) #[true, true, true, false, true, false, false, false, false, false, false] rfl rfl (any_of HT_.out (by kernel_rfl)) (fun _ _ _ h => h) (Or.inl ⟨by rfl, ?_⟩) ?_ ?_
                                      rotate_left
                                      · intro w'
                                        go_simp
                                        with_reducible rfl
                                      rotate_left
                                      · simp only [Act.put, List.setIfInBounds_toArray, List.set_cons_zero, List.set_cons_succ, i64_w, i32_w]
                                        rfl
                                      refine pure_ (i := 5) (N := some 54) (v := ?_) (a' := ?_) #[true, true, true, false, true, true, false, false, false, false, false] rfl rfl (any_of HT_.out (by kernel_rfl)) (fun _ _ _ h => h) (Or.inl ⟨by rfl, ?_⟩) ?_ ?_
                                      rotate_left
                                      · intro w'
                                        go_simp
                                        with_reducible rfl
                                      rotate_left
                                      · simp only [Act.put, List.setIfInBounds_toArray, List.set_cons_zero, List.set_cons_succ, i64_w, i32_w]
                                        rfl
                                      refine pure_ (i := 6) (N := some 55) (v := ?_) (a' := ?_) #[true, true, true, false, true, true, true, false, false, false, false] rfl rfl (any_of HT_.out (by kernel_rfl)) (fun _ _ _ h => h) (Or.inl ⟨by rfl, ?_⟩) ?_ ?_
                                      rotate_left
                                      · intro w'
                                        go_simp
                                        with_reducible rfl
                                      rotate_left
                                      · simp only [Act.put, List.setIfInBounds_toArray, List.set_cons_zero, List.set_cons_succ, i64_w, i32_w]
                                        rfl
                                      refine take_ (i := 3) (N := some 52) (v := ?_) (a' := ?_) #[true, true, true, true, true, true, true, false, false, false, false] rfl rfl (take_ofW HT_.out HW_.out (by kernel_rfl)) (fun _ _ _ h => h) (Or.inl ⟨by rfl, ?_⟩) hHeld ?_ ?_
                                      rotate_left
                                      · rintro w' ⟨s0, s1⟩
                                        go_simp
                                        with_reducible rfl
                                      rotate_left
                                      · simp only [Act.put, List.setIfInBounds_toArray, List.set_cons_zero, List.set_cons_succ, i64_w, i32_w]
                                        rfl
                                      refine take_ (i := 7) (N := some 56) (v := ?_) (a' := ?_) #[true, true, true, true, true, true, true, true, false, false, false] rfl rfl (take_ofW HT_.out HW_.out (by kernel_rfl)) (fun _ _ _ h => h) (Or.inl ⟨by rfl, ?_⟩) hHeld ?_ ?_
                                      rotate_left
                                      · rintro w' ⟨s0, s1⟩
                                        go_simp
                                        with_reducible rfl
                                      rotate_left
                                      · simp only [Act.put, List.setIfInBounds_toArray, List.set_cons_zero, List.set_cons_succ, i64_w, i32_w]
                                        rfl
                                      refine pure_ (i := 8) (N := some 57) (v := ?_) (a' := ?_) #[true, true, true, true, true, true, true, true, true, false, false] rfl rfl (any_of HT_.out (by kernel_rfl)) (fun _ _ _ h => h) (Or.inl ⟨by rfl, ?_⟩) ?_ ?_
                                      rotate_left
                                      · intro w'
                                        go_simp
                                        with_reducible rfl
                                      rotate_left
                                      · simp only [Act.put, List.setIfInBounds_toArray, List.set_cons_zero, List.set_cons_succ, i64_w, i32_w]
                                        rfl
                                      refine pure_ (i := 9) (N := some 58) (v := ?_) (a' := ?_) #[true, true, true, true, true, true, true, true, true, true, false] rfl rfl (any_of HT_.out (by kernel_rfl)) (fun _ _ _ h => h) (Or.inl ⟨by rfl, ?_⟩) ?_ ?_
                                      rotate_left
                                      · intro w'
                                        go_simp
                                        with_reducible rfl
                                      rotate_left
                                      · simp only [Act.put, List.setIfInBounds_toArray, List.set_cons_zero, List.set_cons_succ, i64_w, i32_w]
                                        rfl
                                      refine last_ (i := 10) (N := none) #[true, true, true, true, true, true, true, true, true, true, true] rfl rfl (one_of HT_.out (by kernel_rfl)) (by decide) (fun K hK => ?_)
                                      refine skip_ (w1 := ?_) (by rfl) rfl ?_ ?_
                                      rotate_left
                                      · go_simp
                                        rfl
                                      refine hK.out _ _ ?_
                                      clear hK K
                                      refine done_ (done_of HT_.out (by kernel_rfl)) ?_
                                      try go_wp2
                                      (try simp only [← hl3_3])
                                      (first | go_roundg k3 | ((simp only [add_plain] at *); go_roundg k3))
                                      case measure => have := HK1.out; have := HK2.out; have := HK3.out; omega
                                      case rel => exact ⟨(y114), (wrap64 (x37_3 + 1)), (by first | rfl | (simp; done) | (simp [*]; done)), H', ⟨by have := HK1.out; have := HK2.out; have := HK3.out; omega⟩, ⟨by (try simp only [hl3_2]); (try simp only [hl3_3]); (with_reducible repeat (first | apply Kd.R_alloc | apply Kd.R_drewN | apply Kd.R_drew)); exact HQ31.out⟩, ⟨by repeat (first | (with_reducible first | exact HB.out | apply below_alloc | apply pw_below_drewN | apply below_drew1 | refine below_set ?_ GB29.out) | exact HB.out)⟩⟩
                                    · rw [if_neg c28] at H
                                      exact absurd H (by simp)
                                  · rw [if_neg c27] at H
                                    exact absurd H (by simp)
                                · rw [if_neg c26] at H
                                  have c26b0 : ((Go.bits .and .u64 (ji25) 1) == 1) = false := beq_eq_false_iff_ne.mpr c26
                                  have c26b1 : ((Go.bits .and .u64 (ji25) 1) != 1) = true := bne_iff_ne.mpr c26
                                  have H' := Aside0.mk H
                                  clear H
                                  have p111 : 0 ≤ (x37_3 : Int) := of_decide_eq_true (by first | (with_reducible assumption) | assumption)
                                  have q111 : x37_3 < (x3_3.length : Int) := of_decide_eq_true (by first | (with_reducible assumption) | assumption)
                                  obtain ⟨ad111, e111, hx111_0⟩ := Kd.at_int (Kd.R_reads' HO_3.out).2.2 x37_3 p111 q111
                                  cases e111
                                  replace p111 := eq_true p111
                                  replace q111 := eq_true q111
                                  go_wp2
                                  (try simp only [← hl3_3])
                                  (first | go_roundg k3 | ((simp only [add_plain] at *); go_roundg k3))
                                  case measure => have := HK1.out; have := HK2.out; have := HK3.out; omega
                                  case rel => exact ⟨(x3_3), (wrap64 (x37_3 + 1)), (by first | rfl | (simp; done) | (simp [*]; done)), H', ⟨by have := HK1.out; have := HK2.out; have := HK3.out; omega⟩, ⟨by (try simp only [hl3_2]); (try simp only [hl3_3]); (with_reducible repeat (first | apply Kd.R_alloc | apply Kd.R_drewN | apply Kd.R_drew)); exact HO_3.out⟩, ⟨by repeat (first | (with_reducible first | exact HB.out | apply below_alloc | apply pw_below_drewN | apply below_drew1) | exact HB.out)⟩⟩
                              · rw [if_neg c24] at H
                                exact absurd H (by simp)
                            · rw [if_neg c22] at H
                              exact absurd H (by simp)
                          · rw [if_neg c21] at H
                            exact absurd H (by simp)
                        · rw [if_neg c20] at H
                          have c20b0 : decide (x37_3 < (x3_2.length : Int)) = false := decide_eq_false c20
                          (try (have c20b0h := c20b0; simp only [hl3_2, hl3_3] at c20b0h))
                          clear c20
                          have H' := Aside0.mk H
                          clear H
                          go_wp2
                          (try simp only [← hl3_2, ← hl3_3])
                          (first | go_roundg k3 | ((simp only [add_plain] at *); go_roundg k3))
                          case measure => have := HK1.out; have := HK2.out; have := HK3.out; omega
                          case rel => exact ⟨(x3_3), (wrap64 (x32_2 + 1)), (by first | rfl | (simp; done) | (simp [*]; done)), H', ⟨by have := HK1.out; have := HK2.out; have := HK3.out; omega⟩, ⟨by (try simp only [hl3_2]); (try simp only [hl3_3]); (with_reducible repeat (first | apply Kd.R_alloc | apply Kd.R_drewN | apply Kd.R_drew)); exact HO_3.out⟩, ⟨by repeat (first | (with_reducible first | exact HB.out | apply below_alloc | apply pw_below_drewN | apply below_drew1) | exact HB.out)⟩⟩
                  · rw [if_neg c19] at H
                    have c19b0 : decide (x32_2 < (x3_1.length : Int)) = false := decide_eq_false c19
                    (try (have c19b0h := c19b0; simp only [hl3_2] at c19b0h))
                    clear c19
                    obtain rfl := Option.some.inj H
                    go_wp2
                    go_ret
                    exact ⟨_, by first | rfl | (simp [errW_none, errW_some] <;> rfl) | (simp [*, errW_none, errW_some] <;> rfl), by (with_reducible repeat (first | apply Kd.R_alloc | apply Kd.R_drewN | apply Kd.R_drew)); exact HO_3.out, by repeat (first | (with_reducible first | exact HB.out | apply below_alloc | apply pw_below_drewN | apply below_drew1) | exact HB.out)⟩
      · rw [if_neg c5] at H
        exact absurd H (by simp)
    · rw [if_neg c4] at H
      exact absurd H (by simp)
  · replace c3 := Bool.eq_false_iff.mpr c3
    subst c3
    have H1 : (some ([] : List Int)) = some r := by rw [if_neg (show ¬ (false = true) by decide)] at H; exact H
    clear H
    have H := H1
    clear H1
    obtain rfl := Option.some.inj H
    go_enter Tryd.func29, Tryd.ntmps29
    go_wp2_with (first | ((with_reducible refine gate_callee (f := 37) rfl ?_); refine goesL_ (some 8) rfl rfl Tryd.func37 (by kernel_rfl) rfl #[.slice A0 l0.length c0] rfl (by (try simp only [List.map_toArray, List.map_cons, List.map_nil]); first | done | rfl | (simp only [List.length_drop, List.length_take]; rfl)) ?_; (with_reducible refine (relation_Valid.calls k _ _ l0 false _ ?side1 ?side2 A2.out).mono ?_); (case side1 => repeat (first | exact HR0.out | (with_reducible refine Kd.C_alloc ?_ _) | (with_reducible refine Kd.C_drewN ?_ _) | (with_reducible refine Kd.C_drew ?_))); (case side2 => exact HC0.out); rintro e w' ⟨rfl, ⟨nd, rfl⟩⟩; refine ⟨_, rfl, ?_⟩))
    go_ret
    exact ⟨_, by first | rfl | (simp [errW_none, errW_some] <;> rfl) | (simp [*, errW_none, errW_some] <;> rfl), by first | exact Kd.R_nil _ _ _ _ _ | exact Kd.N_nil _ _ _ _ _ | exact Kd.V_nil _ _ _ _ _ | exact Kd.Q_nil _ _ _ _ _ | exact Kd.S_nil _ _ _ _ _, by repeat (first | (with_reducible first | exact HB.out | apply below_alloc | apply pw_below_drewN | apply below_drew1) | exact HB.out)⟩

/-! ### semigrouplaw02_awake: function 16 -/
def semigrouplaw02_awake.f (k : Nat)  : Option (Bool) := (relation_Closure.f k (([2, 0] : List Int))).bind fun t118 => ((semigroupref02_Same.f k t118 (([3, 2] : List Int))).bind fun t124 => (some t124))
theorem semigrouplaw02_awake.mono : ∀ k, LeO (semigrouplaw02_awake.f k ) (semigrouplaw02_awake.f (k + 1) ) := by
  intro  k
  unfold semigrouplaw02_awake.f
  repeat' first
      | (with_reducible exact relation_Closure.mono _ _)
      | (with_reducible exact semigroupref02_Same.mono _ _ _)
      | (with_reducible exact LeO.refl _)
      | (with_reducible exact LeO.none _)
      | (with_reducible refine LeO.ite ?_ ?_)
      | (with_reducible refine LeO.bind ?_ (fun _ => ?_))
      | exact relation_Closure.mono _ _
      | exact semigroupref02_Same.mono _ _ _
      | exact LeO.none _
      | refine LeO.ite ?_ ?_
      | refine LeO.bind ?_ (fun _ => ?_)
set_option maxHeartbeats 8000000 in
set_option maxRecDepth 100000 in
theorem semigrouplaw02_awake.calls (k : Nat)  (r : Bool) (w : World) (h : semigrouplaw02_awake.f k  = some r) :
    Calls Tryd.prog 16 #[] w fun e w' => e = .returned (.bool r) ∧ Below w.heap.size w w' := by
  have HB := Aside0.mk (Below.refl w.heap.size w)
  have H : ((relation_Closure.f k (([2, 0] : List Int))).bind fun t118 => ((semigroupref02_Same.f k t118 (([3, 2] : List Int))).bind fun t124 => (some t124))) = some r := h
  clear h
  obtain ⟨y115, hy115⟩ : ∃ y_ : List Int, y_ = (([2, 0] : List Int)) := ⟨_, rfl⟩
  replace H : ((relation_Closure.f k y115).bind fun t118 => ((semigroupref02_Same.f k t118 (([3, 2] : List Int))).bind fun t124 => (some t124))) = some r := by first | (rw [hy115]; with_reducible exact H) | (have H2_ := (Option.bind_some _ _).symm.trans H; rw [hy115]; with_reducible exact H2_) | (have H2_ := (Option.bind_some _ _).symm.trans H; with_reducible exact H2_) | with_reducible exact H | (rw [hy115]; exact H) | exact H
  have Ny115 := Aside0.mk hy115
  clear hy115
  replace H := Option.bind_eq_some_iff.mp H
  obtain ⟨t118, A10, H⟩ := H
  replace H : ((semigroupref02_Same.f k t118 (([3, 2] : List Int))).bind fun t124 => (some t124)) = some r := H
  have A1 := Aside0.mk A10
  clear A10
  obtain ⟨y121, hy121⟩ : ∃ y_ : List Int, y_ = (([3, 2] : List Int)) := ⟨_, rfl⟩
  replace H : ((semigroupref02_Same.f k t118 y121).bind fun t124 => (some t124)) = some r := by first | (rw [hy121]; with_reducible exact H) | (have H2_ := (Option.bind_some _ _).symm.trans H; rw [hy121]; with_reducible exact H2_) | (have H2_ := (Option.bind_some _ _).symm.trans H; with_reducible exact H2_) | with_reducible exact H | (rw [hy121]; exact H) | exact H
  have Ny121 := Aside0.mk hy121
  clear hy121
  replace H := Option.bind_eq_some_iff.mp H
  obtain ⟨t124, A20, H⟩ := H
  replace H : (some t124) = some r := H
  have A2 := Aside0.mk A20
  clear A20
  obtain rfl := Option.some.inj H
  go_enter Tryd.func16, Tryd.ntmps16
  go_wp2_with (first | ((with_reducible refine gate_dst (N := 1) rfl ?_); refine Kd.R_lit (Kd.int .u64) _ 26 ?hg (N := 1) ?hd (xs := ([2, 0] : List Int)) (inner := [.int .u64 2, .int .u64 0]) (ok := fun _ => True) (okp := fun _ => True) ?hr ?hp (fun _ hk => hk) trivial (Below.refl _ _) (Nat.le_refl _) (by simp) ?_; (case hd => rfl); (case hg => rfl); (case hr => first | (go_simp; done) | (go_simp; rfl)); (case hp => exact (Reps.one (show Kd.M (Kd.int .u64) _ _ _ 2 [.int .u64 2] from rfl) (Reps.one (show Kd.M (Kd.int .u64) _ _ _ 0 [.int .u64 0] from rfl) (Reps.none _ _)))); intro v116 w3 ho4 hb hg_ hnew_; clear hg_ hnew_; (first | rw [← Ny115.out] at ho4 | (simp only [Int.reduceToNat] at ho4; rw [← Ny115.out] at ho4)); have n0_ := Aside0.mk (Kd.R_lower ho4 (below_size (by repeat (first | (with_reducible first | exact HB.out | apply below_alloc | apply pw_below_drewN | apply below_drew1) | exact HB.out)))); have n1_ := Aside0.mk (below_step (by repeat (first | (with_reducible first | exact HB.out | apply below_alloc | apply pw_below_drewN | apply below_drew1) | exact HB.out)) hb); clear HB; have HO117 := n0_; have HB := n1_; clear n0_ n1_; clear hb ho4; obtain ⟨Ao5, co5, eo5⟩ := Kd.R_slice HO117.out; subst eo5) | ((with_reducible refine gate_callee (f := 29) rfl ?_); (fail_if_success (have chk_ := HO120)); refine goesL_ (some 2) rfl rfl Tryd.func29 (by kernel_rfl) rfl #[.slice Ao5 y115.length co5] rfl (by (try simp only [List.map_toArray, List.map_cons, List.map_nil]); first | done | rfl | (simp only [List.length_drop, List.length_take]; rfl)) ?_; (with_reducible refine (relation_Closure.calls k _ _ y115 t118 _ ?side1 ?side2 A1.out).mono ?_); (case side1 => repeat (first | exact (Kd.R_reads' HO117.out).2.2 | (with_reducible refine Kd.C_alloc ?_ _) | (with_reducible refine Kd.C_drewN ?_ _) | (with_reducible refine Kd.C_drew ?_))); (case side2 => exact (Kd.R_reads' HO117.out).2.1); rintro e w6 ⟨v119, rfl, ho0, hb⟩; refine ⟨_, rfl, ?_⟩; have n0_ := Aside0.mk (Kd.R_elder' (by (with_reducible repeat (first | apply Kd.R_alloc | apply Kd.R_drewN | apply Kd.R_drew)); exact HO117.out) (Kd.R_base ho0) hb); have n1_ := Aside0.mk (Kd.R_lower (Kd.R_new' ho0 (Kd.R_lt (by (with_reducible repeat (first | apply Kd.R_alloc | apply Kd.R_drewN | apply Kd.R_drew)); exact HO117.out))) (below_size (by repeat (first | (with_reducible first | exact HB.out | apply below_alloc | apply pw_below_drewN | apply below_drew1) | exact HB.out)))); have n2_ := Aside0.mk (below_step (by repeat (first | (with_reducible first | exact HB.out | apply below_alloc | apply pw_below_drewN | apply below_drew1) | exact HB.out)) hb); clear HO117; clear HB; have HO117 := n0_; have HO120 := n1_; have HB := n2_; clear n0_ n1_ n2_; (try clear hb); (try clear hb2); (try clear hk); (try clear hi); (try clear ho0)) | ((with_reducible refine gate_dst (N := 3) rfl ?_); refine Kd.R_lit (Kd.int .u64) _ 26 ?hg (N := 3) ?hd (xs := ([3, 2] : List Int)) (inner := [.int .u64 3, .int .u64 2]) (ok := fun _ => True) (okp := fun _ => True) ?hr ?hp (fun _ hk => hk) trivial (Below.refl _ _) (Nat.le_refl _) (by simp) ?_; (case hd => rfl); (case hg => rfl); (case hr => first | (go_simp; done) | (go_simp; rfl)); (case hp => exact (Reps.one (show Kd.M (Kd.int .u64) _ _ _ 3 [.int .u64 3] from rfl) (Reps.one (show Kd.M (Kd.int .u64) _ _ _ 2 [.int .u64 2] from rfl) (Reps.none _ _)))); intro v122 w7 ho8 hb hg_ hnew_; clear hg_ hnew_; (first | rw [← Ny121.out] at ho8 | (simp only [Int.reduceToNat] at ho8; rw [← Ny121.out] at ho8)); have n0_ := Aside0.mk (Kd.R_elder' (by (with_reducible repeat (first | apply Kd.R_alloc | apply Kd.R_drewN | apply Kd.R_drew)); exact HO117.out) (Kd.R_base ho8) hb); have n1_ := Aside0.mk (Kd.R_elder' (by (with_reducible repeat (first | apply Kd.R_alloc | apply Kd.R_drewN | apply Kd.R_drew)); exact HO120.out) (Kd.R_base ho8) hb); have n2_ := Aside0.mk (Kd.R_lower (Kd.R_new' (Kd.R_new' ho8 (Kd.R_lt (by (with_reducible repeat (first | apply Kd.R_alloc | apply Kd.R_drewN | apply Kd.R_drew)); exact HO117.out))) (Kd.R_lt (by (with_reducible repeat (first | apply Kd.R_alloc | apply Kd.R_drewN | apply Kd.R_drew)); exact HO120.out))) (below_size (by repeat (first | (with_reducible first | exact HB.out | apply below_alloc | apply pw_below_drewN | apply below_drew1) | exact HB.out)))); have n3_ := Aside0.mk (below_step (by repeat (first | (with_reducible first | exact HB.out | apply below_alloc | apply pw_below_drewN | apply below_drew1) | exact HB.out)) hb); clear HO117; clear HO120; clear HB; have HO117 := n0_; have HO120 := n1_; have HO123 := n2_; have HB := n3_; clear n0_ n1_ n2_ n3_; clear hb ho8; obtain ⟨Ao9, co9, eo9⟩ := Kd.R_slice HO120.out; subst eo9; obtain ⟨Ao10, co10, eo10⟩ := Kd.R_slice HO123.out; subst eo10) | ((with_reducible refine gate_callee (f := 17) rfl ?_); refine goesL_ (some 4) rfl rfl Tryd.func17 (by kernel_rfl) rfl #[.slice Ao9 t118.length co9, .slice Ao10 y121.length co10] rfl (by (try simp only [List.map_toArray, List.map_cons, List.map_nil]); first | done | rfl | (simp only [List.length_drop, List.length_take]; rfl)) ?_; (with_reducible refine (semigroupref02_Same.calls k _ _ t118 _ _ y121 t124 _ ?side1 ?side2 ?side3 ?side4 A2.out).mono ?_); (case side1 => repeat (first | exact (Kd.R_reads' HO120.out).2.2 | (with_reducible refine Kd.C_alloc ?_ _) | (with_reducible refine Kd.C_drewN ?_ _) | (with_reducible refine Kd.C_drew ?_))); (case side2 => exact (Kd.R_reads' HO120.out).2.1); (case side3 => repeat (first | exact (Kd.R_reads' HO123.out).2.2 | (with_reducible refine Kd.C_alloc ?_ _) | (with_reducible refine Kd.C_drewN ?_ _) | (with_reducible refine Kd.C_drew ?_))); (case side4 => exact (Kd.R_reads' HO123.out).2.1); rintro e w' ⟨rfl, ⟨nd, rfl⟩⟩; refine ⟨_, rfl, ?_⟩))
  go_ret
  exact ⟨by first | rfl | (simp [errW_none, errW_some] <;> rfl) | (simp [*, errW_none, errW_some] <;> rfl), by repeat (first | (with_reducible first | exact HB.out | apply below_alloc | apply pw_below_drewN | apply below_drew1) | exact HB.out)⟩

/-! ### semigrouplaw02_same: function 19 -/
def semigrouplaw02_same.l0 : Nat → List Int → List Int → Int → Int → Option (Bool)
  | 0, _, _, _, _ => none
  | k + 1, x0, x1, x12, x13 => if x13 < x12 then (if 0 ≤ x13 then (if x13 < (x0.length : Int) then (if x13 < (x1.length : Int) then (if (rd x0 x13) = (rd x1 x13) then (semigrouplaw02_same.l0 k x0 x1 x12 (wrap64 (x13 + 1))) else (some false)) else (none)) else (none)) else (none)) else (some true)
def semigrouplaw02_same.f (k : Nat) (l0 : List Int) (l1 : List Int) : Option (Bool) := if (l0.length : Int) = (l1.length : Int) then (semigrouplaw02_same.l0 k l0 l1 (l0.length : Int) 0) else (some false)
theorem semigrouplaw02_same.mono_l : ∀ k, (∀ y0 y1 y2 y3, LeO (semigrouplaw02_same.l0 k y0 y1 y2 y3) (semigrouplaw02_same.l0 (k + 1) y0 y1 y2 y3))
  | 0 => fun _ _ _ _ r h => by simp [semigrouplaw02_same.l0] at h
  | k + 1 => by
    have ih0 := semigrouplaw02_same.mono_l k
    · intro y0 y1 y2 y3
      unfold semigrouplaw02_same.l0
      repeat' first
      | (with_reducible exact ih0 _ _ _ _)
      | (with_reducible exact LeO.refl _)
      | (with_reducible exact LeO.none _)
      | (with_reducible refine LeO.ite ?_ ?_)
      | (with_reducible refine LeO.bind ?_ (fun _ => ?_))
      | exact ih0 _ _ _ _
      | exact LeO.none _
      | refine LeO.ite ?_ ?_
      | refine LeO.bind ?_ (fun _ => ?_)
theorem semigrouplaw02_same.mono : ∀ a0 a1 k, LeO (semigrouplaw02_same.f k a0 a1) (semigrouplaw02_same.f (k + 1) a0 a1) := by
  intro a0 a1 k
  have ih0 := semigrouplaw02_same.mono_l k
  unfold semigrouplaw02_same.f
  repeat' first
      | (with_reducible exact ih0 _ _ _ _)
      | (with_reducible exact LeO.refl _)
      | (with_reducible exact LeO.none _)
      | (with_reducible refine LeO.ite ?_ ?_)
      | (with_reducible refine LeO.bind ?_ (fun _ => ?_))
      | exact ih0 _ _ _ _
      | exact LeO.none _
      | refine LeO.ite ?_ ?_
      | refine LeO.bind ?_ (fun _ => ?_)
set_option maxHeartbeats 8000000 in
set_option maxRecDepth 100000 in
theorem semigrouplaw02_same.calls (k : Nat) (A0 : Option Addr) (c0 : Nat) (l0 : List Int) (A1 : Option Addr) (c1 : Nat) (l1 : List Int) (r : Bool) (w : World) (hr0 : Kd.C (Kd.int .i64) w A0 l0.length l0) (hc0 : l0.length ≤ c0) (hr1 : Kd.C (Kd.int .i64) w A1 l1.length l1) (hc1 : l1.length ≤ c1) (h : semigrouplaw02_same.f k l0 l1 = some r) :
    Calls Tryd.prog 19 #[.slice A0 l0.length c0, .slice A1 l1.length c1] w fun e w' => e = .returned (.bool r) ∧ Drawn0 w w' := by
  have HR0 := Aside0.mk hr0
  have HC0 := Aside0.mk hc0
  clear hr0 hc0
  have HR1 := Aside0.mk hr1
  have HC1 := Aside0.mk hc1
  clear hr1 hc1
  have H : (if (l0.length : Int) = (l1.length : Int) then (semigrouplaw02_same.l0 k l0 l1 (l0.length : Int) 0) else (some false)) = some r := h
  clear h
  by_cases c3 : (l0.length : Int) = (l1.length : Int)
  · rw [if_pos c3] at H
    have c3b0 : ((l0.length : Int) == (l1.length : Int)) = true := beq_iff_eq.mpr c3
    have c3b1 : ((l0.length : Int) != (l1.length : Int)) = false := bne_eq_false_iff_eq.mpr c3
    have c3b2 : (l0.length == l1.length) = true := by first | simpa using c3 | (simp at c3 ⊢; omega)
    clear c3
    have H' := Aside0.mk H
    clear H
    go_enter Tryd.func19, Tryd.ntmps19
    go_wp2
    repeat (go_quiet (fail); try go_wp2)
    go_loopg [13] k (fun kq v13 w' => ∃ (x13_1 : Int), v13 = .int .i64 x13_1 ∧ Aside0 (semigrouplaw02_same.l0 kq l0 l1 (l0.length : Int) x13_1 = some r) ∧ Aside0 (kq ≤ k) ∧ Drawn0 w w')
    case atStart => exact ⟨(0), (by first | rfl | (simp; done) | (simp [*]; done)), H', ⟨Nat.le_refl _⟩, by repeat (first | exact Drawn0.refl _ | apply Drawn0.step)⟩
    case round =>
      clear H'
      try clear c1
      try clear p2
      try clear c3
      try clear c3b0
      try clear c3b1
      try clear c3b2
      obtain ⟨x13_1, rfl, HA, HK1, ⟨m1, rfl⟩⟩ := hrel
      cases gk with
      | zero => exact absurd HA.out (by simp [semigrouplaw02_same.l0])
      | succ k1 =>
        have H := HA.out
        clear HA
        simp only [semigrouplaw02_same.l0] at H
        by_cases c4 : x13_1 < (l0.length : Int)
        · rw [if_pos c4] at H
          have c4b0 : decide (x13_1 < (l0.length : Int)) = true := decide_eq_true c4
          clear c4
          by_cases c5 : 0 ≤ x13_1
          · rw [if_pos c5] at H
            have c5b0 : decide (0 ≤ x13_1) = true := decide_eq_true c5
            clear c5
            by_cases c6 : x13_1 < (l0.length : Int)
            · rw [if_pos c6] at H
              have c6b0 : decide (x13_1 < (l0.length : Int)) = true := decide_eq_true c6
              clear c6
              by_cases c7 : x13_1 < (l1.length : Int)
              · rw [if_pos c7] at H
                have c7b0 : decide (x13_1 < (l1.length : Int)) = true := decide_eq_true c7
                clear c7
                by_cases c8 : (rd l0 x13_1) = (rd l1 x13_1)
                · rw [if_pos c8] at H
                  have c8b0 : ((rd l0 x13_1) == (rd l1 x13_1)) = true := beq_iff_eq.mpr c8
                  have c8b1 : ((rd l0 x13_1) != (rd l1 x13_1)) = false := bne_eq_false_iff_eq.mpr c8
                  clear c8
                  have H' := Aside0.mk H
                  clear H
                  have p125 : 0 ≤ (x13_1 : Int) := of_decide_eq_true (by first | (with_reducible assumption) | assumption)
                  have q125 : x13_1 < (l0.length : Int) := of_decide_eq_true (by first | (with_reducible assumption) | assumption)
                  obtain ⟨ad125, e125, hx125_0⟩ := Kd.at_int HR0.out x13_1 p125 q125
                  cases e125
                  replace p125 := eq_true p125
                  replace q125 := eq_true q125
                  have p126 : 0 ≤ (x13_1 : Int) := of_decide_eq_true (by first | (with_reducible assumption) | assumption)
                  have q126 : x13_1 < (l1.length : Int) := of_decide_eq_true (by first | (with_reducible assumption) | assumption)
                  obtain ⟨ad126, e126, hx126_0⟩ := Kd.at_int HR1.out x13_1 p126 q126
                  cases e126
                  replace p126 := eq_true p126
                  replace q126 := eq_true q126
                  go_wp2
                  repeat (go_quiet (fail); try go_wp2)
                  (first | go_roundg k1 | ((simp only [add_plain] at *); go_roundg k1))
                  case measure => have := HK1.out; omega
                  case rel => exact ⟨(wrap64 (x13_1 + 1)), (by first | rfl | (simp; done) | (simp [*]; done)), H', ⟨by have := HK1.out; omega⟩, by repeat (first | exact Drawn0.refl _ | apply Drawn0.step)⟩
                · rw [if_neg c8] at H
                  have c8b0 : ((rd l0 x13_1) == (rd l1 x13_1)) = false := beq_eq_false_iff_ne.mpr c8
                  have c8b1 : ((rd l0 x13_1) != (rd l1 x13_1)) = true := bne_iff_ne.mpr c8
                  obtain rfl := Option.some.inj H
                  have p125 : 0 ≤ (x13_1 : Int) := of_decide_eq_true (by first | (with_reducible assumption) | assumption)
                  have q125 : x13_1 < (l0.length : Int) := of_decide_eq_true (by first | (with_reducible assumption) | assumption)
                  obtain ⟨ad125, e125, hx125_0⟩ := Kd.at_int HR0.out x13_1 p125 q125
                  cases e125
                  replace p125 := eq_true p125
                  replace q125 := eq_true q125
                  have p126 : 0 ≤ (x13_1 : Int) := of_decide_eq_true (by first | (with_reducible assumption) | assumption)
                  have q126 : x13_1 < (l1.length : Int) := of_decide_eq_true (by first | (with_reducible assumption) | assumption)
                  obtain ⟨ad126, e126, hx126_0⟩ := Kd.at_int HR1.out x13_1 p126 q126
                  cases e126
                  replace p126 := eq_true p126
                  replace q126 := eq_true q126
                  go_wp2
                  repeat (go_quiet (fail); try go_wp2)
                  go_ret
                  exact ⟨by first | rfl | (simp; done) | (simp [*]; done), by repeat (first | exact Drawn0.refl _ | apply Drawn0.step)⟩
              · rw [if_neg c7] at H
                exact absurd H (by simp)
            · rw [if_neg c6] at H
              exact absurd H (by simp)
          · rw [if_neg c5] at H
            exact absurd H (by simp)
        · rw [if_neg c4] at H
          have c4b0 : decide (x13_1 < (l0.length : Int)) = false := decide_eq_false c4
          clear c4
          obtain rfl := Option.some.inj H
          go_wp2
          repeat (go_quiet (fail); try go_wp2)
          go_ret
          exact ⟨by first | rfl | (simp; done) | (simp [*]; done), by repeat (first | exact Drawn0.refl _ | apply Drawn0.step)⟩
  · rw [if_neg c3] at H
    have c3b0 : ((l0.length : Int) == (l1.length : Int)) = false := beq_eq_false_iff_ne.mpr c3
    have c3b1 : ((l0.length : Int) != (l1.length : Int)) = true := bne_iff_ne.mpr c3
    have c3b2 : (l0.length == l1.length) = false := by first | simpa using c3 | (simp at c3 ⊢; omega)
    obtain rfl := Option.some.inj H
    go_enter Tryd.func19, Tryd.ntmps19
    go_wp2
    repeat (go_quiet (fail); try go_wp2)
    go_ret
    exact ⟨by first | rfl | (simp; done) | (simp [*]; done), by repeat (first | exact Drawn0.refl _ | apply Drawn0.step)⟩

end Go.Proofs.YtndpeoladndepaaDoor.PRelationCondenses
